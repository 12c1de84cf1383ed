/- Regions whose order is open: soundness. -/
import Derived.Test.YtpfbkblgefddlaaAvDraw
import Derived.Orders
namespace Go.Proofs.Ytpfbkblgefddlaa.Av
set_option linter.unusedSimpArgs false
set_option linter.unusedVariables false
open Go

theorem Rel.ofNo {w : World} {own own' : Nat → Prop} {π' : PlF} {N' : Nat} (ho : ∀ b, own' b → own b) {x : AV} {v : Value} (h : Rel w own noPl 0 x v) : Rel w own' π' N' x v := by
  induction h with
  | top v => exact .top v
  | undef => exact .undef
  | int k n => exact .int k n
  | bool b => exact .bool b
  | str s => exact .str s
  | agg vs cs hl _ ih => exact .agg vs cs hl ih
  | tup vs cs hl _ ih => exact .tup vs cs hl ih
  | refLive id off len b cap p hp hb h1 h2 => cases hp
  | refEnd id off o b p hp hb => cases hp
  | refNil id a p hp hb => cases hp
  | refDead id off len v cap hp hn => exact absurd hn (Nat.not_lt_zero _)
  | snil a => exact .snil a
  | valNil a cap => exact .valNil a cap
  | val rows g off cap s us hg hc hm hs hf hu h1 _ ih => exact .val rows g off cap s us (fun k => hg (ho _ k)) hc hm hs hf hu h1 ih
  | tmp rows g off cap s us hg hc hm hs hf hu h1 _ ih => exact .tmp rows g off cap s us (fun k => hg (ho _ k)) hc hm hs hf hu h1 ih
  | ptrLive id i off b p hp hb => cases hp
  | ptrDead id i off v hp hn => exact absurd hn (Nat.not_lt_zero _)
  | rptr row off g o us hg hf hu h1 _ ih => exact .rptr row off g o us (fun k => hg (ho _ k)) hf hu h1 ih
  | pnil => exact .pnil
  | fn f caps cs hl _ ih => exact .fn f caps cs hl ih
  | fnil => exact .fnil
  | maybe c d b h1 h2 => exact .maybe c d b h1 h2

section
variable {P : Program} {w0 : World} {pass own0 : Nat → Prop} {A : Anch} {π : Pl} {e : Env} {h : Heap} {n : Nat} {a : Act} {w : World}

theorem HSim.mono (s : HSim own0 π h n w) {w' : World} (m : Mono own0 π π n n w w') (hk : ∀ b, b < w.heap.size → w'.heap[b]? = w.heap[b]?) : HSim own0 π h n w' := by
  refine ⟨s.dom, fun id o ho => ?_, s.inj, s.sep, fun b hb => Nat.lt_of_lt_of_le (s.old b hb) m.size, fun b k hb => ?_⟩
  rotate_left
  · obtain ⟨g1, g2, g3, g4⟩ := s.hid b k hb
    exact ⟨g1, Nat.lt_of_lt_of_le g2 m.size, g3, g4⟩
  obtain ⟨h1, p, h2, h3⟩ := s.obj id o ho
  exact ⟨h1, p, h2, h3.mono m (fun b hb => hk b (s.blk_lt h2 hb)) (fun b i j hb => ⟨hk b (s.hid b _ hb).2.1, hb⟩)⟩

theorem go_same (s : Sim w0 pass own0 π e h n a w) {w' : World} (E : Ext w w' (fun _ => False)) : Go1 w0 pass own0 π n w π h n w' := by
  have hk : ∀ b, b < w.heap.size → w'.heap[b]? = w.heap[b]? := fun b hb => E.kept b hb (by simp)
  have M : Mono own0 π π n n w w' := ⟨E.size, fun b hb ho => ⟨hk b hb, ho⟩, fun id p hp => ⟨.inl hp, (s.hs.lt hp).1⟩, fun _ hp _ => hp, Nat.le_refl _, E.os, E.tape, E.output⟩
  refine ⟨M, s.hs.mono M hk, ?_⟩
  exact ⟨E.os.trans s.fr.os, E.tape.trans s.fr.tape, E.output.trans s.fr.output, Nat.le_trans s.fr.size E.size, fun b hb hp => (hk b (Nat.lt_of_lt_of_le hb s.fr.size)).trans (s.fr.kept b hb hp), fun id p b h1 h2 => s.fr.blk id p b h1 h2, s.fr.hid⟩

theorem rel_snapT (s : HSim own0 π h n w) {x : AV} {v : Value} (hr : Rel w (ownOf own0 π) π n x v) : Rel w own0 noPl 0 (x.snapT h) v := by
  cases x <;> simp only [AV.snapT] <;> first | exact rel_snap s hr | skip
  cases hr with
  | tup vs cs hl hh =>
    refine .tup _ cs (by simpa using hl) (fun i x u h1 h2 => ?_)
    simp only [List.getElem?_map, Option.map_eq_some_iff] at h1
    obtain ⟨y, hy, rfl⟩ := h1
    exact rel_snap s (hh i y u hy h2)

theorem callOk_D {Γ : Ctx} (hΓ : CtxSound P Γ) (hB : CtxBody P Γ) : CallOk P (CD Γ) := by
  rintro f ⟨xs, h, n, K, hc⟩
  unfold CD at hc
  cases hS : Γ f with
  | none => simp [hS] at hc
  | some S =>
    refine ⟨hB f S hS, fun w0 pass own0 π e h n a w xs vs K s hr hk => ?_⟩
    simp only [CD, hS] at hk
    cases S with
    | gen k G => exact hk.elim
    | loose R =>
      obtain ⟨hfree, r, objs, hR, hk⟩ := hk
      have hold : ∀ b, ownOf own0 π b → b < w.heap.size := fun b hb => own_lt s.hs hb
      refine (hΓ f _ hS w (ownOf own0 π) (xs.map (AV.snap h)) vs r objs hold ⟨by simpa using hr.1, fun i x v h1 h2 => ?_⟩ hR).mono ?_
      · simp only [List.getElem?_map, Option.map_eq_some_iff] at h1
        obtain ⟨y, hy, rfl⟩ := h1
        exact rel_snap_free ((List.all_eq_true.1 hfree) y (List.mem_of_getElem? hy)) (hr.2 i y v hy h2)
      · rintro e' w' ⟨v, πr, rfl, E, H, _, hrel⟩
        exact ⟨v, π, _, h, n, rfl, go_same s E, (rel_snapT H hrel).ofNo (fun b hb => hb), hk⟩
    | pure R =>
      obtain ⟨r, objs, hR, hk⟩ := hk
      refine (hΓ f _ hS w own0 (xs.map (AV.snap h)) vs r objs ⟨by simpa using hr.1, fun i x v h1 h2 => ?_⟩ hR).mono ?_
      · simp only [List.getElem?_map, Option.map_eq_some_iff] at h1
        obtain ⟨y, hy, rfl⟩ := h1
        exact rel_snap s.hs (hr.2 i y v hy h2)
      · rintro e' w' ⟨v, πr, rfl, E, H, hrel⟩
        refine ⟨v, π, _, h, n, rfl, go_same s E, (rel_snapT H hrel).ofNo (fun b hb => own_lt s.hs hb), hk⟩

theorem St.drawn {N : Nat} (st : St w0 pass own0 A N e h n a w) : St w0 pass own0 A N e h n a { w with drawn := w.drawn + 1 } := by
  obtain ⟨h1, h2, π, hA, s⟩ := st
  have g := go_same s (w' := { w with drawn := w.drawn + 1 }) ⟨rfl, rfl, rfl, Nat.le_refl _, fun _ _ _ => rfl⟩
  exact ⟨h1, h2, π, hA, g.2, g.3, fun t => (s.env t).mono g.1⟩

/-! ### the orders -/

def direct (o : Oper) : List Nat := (o.after.toList.filter (Region.binds .any)).map (·.on)

/-- what must stand ahead of each operation -/
def befG : List Oper → List (List Nat) → List (List Nat)
  | [], acc => acc
  | o :: r, acc => befG r (acc ++ [(List.range acc.length).filter fun k => (direct o).any fun d => d == k || (acc.getD d []).contains k])

def apartFrom (ios : List IOper) (io : IOper) (bs : List Nat) : Nat → Bool
  | 0 => true
  | i + 1 => apartFrom ios io bs i && (bs.contains i || match ios[i]? with
    | some x => apartB x io
    | none => false)

def drwOkG (ios : List IOper) (bs : List (List Nat)) : List Oper → Nat → Bool
  | [], _ => true
  | o :: r, j => (direct o).all (· < j) && (match ios[j]? with
    | some io => apartFrom ios io (bs.getD j []) j
    | none => false) && drwOkG ios bs r (j + 1)

def drwOk (ops : Array Oper) (ios : List IOper) : Bool := drwOkG ios (befG ops.toList []) ops.toList 0

theorem apartFrom_spec {ios : List IOper} {io : IOper} {bs : List Nat} : ∀ (m : Nat), apartFrom ios io bs m = true → ∀ i, i < m → i ∈ bs ∨ ∃ x, ios[i]? = some x ∧ apartB x io = true
  | 0, _, i, hi => by omega
  | m + 1, h, i, hi => by
    simp only [apartFrom, Bool.and_eq_true, Bool.or_eq_true] at h
    by_cases him : i = m
    · subst him
      rcases h.2 with h2 | h2
      · exact .inl (by simpa using h2)
      · split at h2
        · rename_i x hx; exact .inr ⟨x, hx, h2⟩
        · cases h2
    · exact apartFrom_spec m h.1 i (by omega)

theorem drwOkG_spec {ios : List IOper} {bs : List (List Nat)} : ∀ (l : List Oper) (j0 : Nat), drwOkG ios bs l j0 = true → ∀ i o, l[i]? = some o →
    (∀ d ∈ direct o, d < j0 + i) ∧ ∃ io, ios[j0 + i]? = some io ∧ ∀ k, k < j0 + i → k ∈ bs.getD (j0 + i) [] ∨ ∃ x, ios[k]? = some x ∧ apartB x io = true
  | [], _, _, i, o, h => by simp at h
  | o' :: r, j0, hh, 0, o, h => by
    simp only [drwOkG, Bool.and_eq_true, List.all_eq_true, decide_eq_true_eq] at hh
    simp at h; subst h
    refine ⟨hh.1.1, ?_⟩
    obtain ⟨⟨_, h2⟩, _⟩ := hh
    split at h2
    · rename_i io hio; exact ⟨io, hio, apartFrom_spec _ h2⟩
    · cases h2
  | o' :: r, j0, hh, i + 1, o, h => by
    simp only [drwOkG, Bool.and_eq_true] at hh
    have := drwOkG_spec r (j0 + 1) hh.2 i o (by simpa using h)
    have e : j0 + 1 + i = j0 + (i + 1) := by omega
    rwa [e] at this

/-- what is listed is closed -/
def Closed (ops : Array Oper) (L : Nat → Prop) : Prop := ∀ (j : Nat) (o : Oper), ops[j]? = some o → L j → ∀ d ∈ direct o, L d

def GoodB (ops : Array Oper) (L : Nat → Prop) (acc : List (List Nat)) : Prop := ∀ (j : Nat) (l : List Nat) (o : Oper), acc[j]? = some l → ops[j]? = some o → (∀ d ∈ direct o, L d) → ∀ k ∈ l, L k

theorem befG_good {ops : Array Oper} {L : Nat → Prop} (hL : Closed ops L) : ∀ (l : List Oper) (acc : List (List Nat)), (∀ i o, l[i]? = some o → ops[acc.length + i]? = some o) → GoodB ops L acc → GoodB ops L (befG l acc)
  | [], acc, _, h => h
  | o :: r, acc, hl, h => by
    refine befG_good hL r _ (fun i o' ho' => ?_) ?_
    · have := hl (i + 1) o' (by simpa using ho')
      rw [List.length_append]; simp only [List.length_singleton]
      have e : acc.length + 1 + i = acc.length + (i + 1) := by omega
      rw [e]; exact this
    · intro j l o' hj ho' hd k hk
      rw [List.getElem?_append] at hj
      split at hj
      · exact h j l o' hj ho' hd k hk
      · rename_i hge
        have hj0 : j = acc.length := by
          have := (List.getElem?_eq_some_iff.1 hj).1
          simp at this; omega
        subst hj0
        simp at hj; subst hj
        have ho2 := hl 0 o rfl
        rw [Nat.add_zero, ho'] at ho2
        cases ho2
        simp only [List.mem_filter, List.any_eq_true, Bool.or_eq_true, beq_iff_eq] at hk
        obtain ⟨_, d, hd1, hd2⟩ := hk
        rcases hd2 with rfl | hd2
        · exact hd d hd1
        · have hLd := hd d hd1
          have hlen : d < acc.length := by
            by_cases hc : d < acc.length
            · exact hc
            · simp [List.getElem?_eq_none (Nat.le_of_not_lt hc)] at hd2
          rw [List.getElem?_eq_getElem hlen] at hd2
          have hkk : k ∈ acc[d] := by simpa using hd2
          by_cases hop : d < ops.size
          · exact h d acc[d] ops[d] (List.getElem?_eq_getElem hlen) (Array.getElem?_eq_getElem hop) (hL d _ (Array.getElem?_eq_getElem hop) hLd) k hkk
          · have := (Array.getElem?_eq_some_iff.1 ho').1; omega

def unlisted (listed : Array Bool) (m : Nat) : List Nat := (List.range m).filter fun i => !listed.getD i true

theorem mem_unlisted {listed : Array Bool} {m i : Nat} : i ∈ unlisted listed m ↔ i < m ∧ listed.getD i true = false := by
  simp [unlisted]

theorem range_split {m i : Nat} (h : i < m) : List.range m = List.range i ++ i :: (List.range' (i + 1) (m - (i + 1))) := by
  rw [List.range_eq_range', List.range_eq_range']
  have e : m = i + (1 + (m - (i + 1))) := by omega
  conv => lhs; rw [e]
  rw [← List.range'_append_1, ← List.range'_append_1]
  simp [List.range'_one]

theorem getD_set {listed : Array Bool} {i j : Nat} (d : Bool) : i ≠ j → (listed.setIfInBounds i true).getD j d = listed.getD j d := fun h => by
  simp [Array.getD_eq_getD_getElem?, Array.getElem?_setIfInBounds_ne h]

theorem unlisted_split {listed : Array Bool} {m i : Nat} (hi : i < m) (hl : listed.getD i true = false) :
    ∃ l r, unlisted listed m = l ++ i :: r ∧ unlisted (listed.setIfInBounds i true) m = l ++ r ∧ ∀ x ∈ l, x < i ∧ listed.getD x true = false := by
  refine ⟨(List.range i).filter fun k => !listed.getD k true, (List.range' (i + 1) (m - (i + 1))).filter fun k => !listed.getD k true, ?_, ?_, ?_⟩
  · unfold unlisted
    rw [range_split hi, List.filter_append, List.filter_cons, hl]
    simp
  · unfold unlisted
    rw [range_split hi, List.filter_append, List.filter_cons]
    have h1 : (listed.setIfInBounds i true).getD i true = true := by
      simp [Array.getD_eq_getD_getElem?, Array.getElem?_setIfInBounds_self]
      split <;> simp
    rw [h1]
    simp only [Bool.not_true, Bool.false_eq_true, if_false]
    congr 1
    · refine List.filter_congr fun k hk => ?_
      rw [getD_set _ (by simp at hk; omega)]
    · refine List.filter_congr fun k hk => ?_
      rw [getD_set _ (by simp [List.mem_range'_1] at hk; omega)]
  · intro x hx
    simpa [List.mem_filter] using hx

theorem mapM_at {ios : List IOper} {l : List Nat} {y : List IOper} (h : l.map (fun i => ios[i]?) = y.map some) {i : Nat} {k : Nat} (hk : l[i]? = some k) : ∃ io, ios[k]? = some io ∧ y[i]? = some io := by
  have := congrArg (fun z => z[i]?) h
  simp only [List.getElem?_map, hk, Option.map_some] at this
  cases hy : y[i]? with
  | none => rw [hy] at this; simp at this
  | some io => rw [hy] at this; simp at this; exact ⟨io, this, rfl⟩

theorem split_map {ios : List IOper} {l : List Nat} {i : Nat} {r : List Nat} {y : List IOper} (h : (l ++ i :: r).map (fun i => ios[i]?) = y.map some) :
    ∃ yl io yr, y = yl ++ io :: yr ∧ ios[i]? = some io ∧ l.map (fun i => ios[i]?) = yl.map some ∧ (l ++ r).map (fun i => ios[i]?) = (yl ++ yr).map some := by
  rw [List.map_append] at h
  obtain ⟨yl, y2, rfl, h1, h2⟩ := List.map_eq_append_iff.1 h.symm
  rw [List.map_cons] at h2
  obtain ⟨io, yr, rfl, h3, h4⟩ := List.map_eq_cons_iff.1 h2
  exact ⟨yl, io, yr, rfl, h3.symm, h1.symm, by simp [h1, h4]⟩

theorem any_sound {Γ : Ctx} (hC : CallOk P (CD Γ)) {ops : Array Oper} {ios : List IOper} {N : Nat} {Q : Exit → Act → World → Prop} {K : Env → Heap → Nat → Prop}
    (hc : ∀ (i : Nat) io, ios[i]? = some io → ∃ o, ops[i]? = some o ∧ cOper P ops o = some io ∧ ∀ t, io.dst = some t → t < N) (hok : drwOk ops ios = true)
    (hQ : ∀ e' h' n' a' w', K e' h' n' → St w0 pass own0 A N e' h' n' a' w' → Q .normal a' w') :
    ∀ (fuel : Nat) (listed : Array Bool) (y : List IOper) (e : Env) (h : Heap) (n : Nat) (a : Act) (w : World), listed.size = ops.size → (unlisted listed ops.size).length = fuel →
      (unlisted listed ops.size).map (fun i => ios[i]?) = y.map some → Closed ops (fun k => listed.getD k false = true) → St w0 pass own0 A N e h n a w → drwK Γ y e h n K →
      wpAny P .any ops Q fuel listed a w := by
  have hbs : ∀ (j : Nat) o, ops[j]? = some o → (∀ d ∈ direct o, d < j) ∧ ∃ io, ios[j]? = some io ∧ ∀ k, k < j → k ∈ (befG ops.toList []).getD j [] ∨ ∃ x, ios[k]? = some x ∧ apartB x io = true := by
    intro j o ho
    have := drwOkG_spec _ _ hok j o (by simpa using ho)
    rwa [Nat.zero_add] at this
  have hDF : ∀ (listed : Array Bool) (i : Nat), i < listed.size → (listed.getD i true = false ↔ ¬ listed.getD i false = true) := by
    intro listed i hi
    simp [Array.getD_eq_getD_getElem?, hi]
  have rdy : ∀ (listed : Array Bool) (y : List IOper), listed.size = ops.size → Closed ops (fun k => listed.getD k false = true) → Region.ready .any ops listed = [] → unlisted listed ops.size = [] := by
    intro listed y hs hcl hr
    cases hu : unlisted listed ops.size with
    | nil => rfl
    | cons i r =>
      exfalso
      have hi := (mem_unlisted (listed := listed) (m := ops.size) (i := i)).1 (by rw [hu]; simp)
      have hir : i ∈ Region.ready .any ops listed := by
        rw [mem_ready]
        refine ⟨hi.2, ops[i], Array.getElem?_eq_getElem hi.1, fun ed he hb => ?_⟩
        have hd : ed.on ∈ direct ops[i] := by
          simp only [direct, List.mem_map, List.mem_filter]
          exact ⟨ed, ⟨by simpa using he, hb⟩, rfl⟩
        have hlt := (hbs i _ (Array.getElem?_eq_getElem hi.1)).1 _ hd
        by_cases hn : listed.getD ed.on false = true
        · exact hn
        · exfalso
          have hm : ed.on ∈ unlisted listed ops.size := mem_unlisted.2 ⟨by omega, (hDF listed ed.on (by omega)).2 hn⟩
          obtain ⟨l, r', h1, _, h3⟩ := unlisted_split (m := ops.size) (i := i) hi.1 hi.2
          rw [hu] at h1
          have hsorted : (unlisted listed ops.size).Pairwise (· < ·) := List.Pairwise.filter _ List.pairwise_lt_range
          rw [hu] at hsorted hm
          rw [List.pairwise_cons] at hsorted
          rcases List.mem_cons.1 hm with h | h
          · omega
          · have := hsorted.1 _ h; omega
      rw [hr] at hir
      simp at hir
  intro fuel
  induction fuel with
  | zero =>
    intro listed y e h n a w hs hf hy hcl st hk
    have hnil : unlisted listed ops.size = [] := List.eq_nil_of_length_eq_zero hf
    rw [hnil] at hy
    have hy0 : y = [] := by cases y <;> simp_all
    subst hy0
    refine ⟨?_, hQ _ _ _ _ _ hk st⟩
    cases hr : Region.ready .any ops listed with
    | nil => rfl
    | cons i r =>
      have := (mem_ready (md := .any) (ops := ops) (listed := listed) (j := i)).1 (by rw [hr]; simp)
      obtain ⟨h1, o, h2, _⟩ := this
      have : i ∈ unlisted listed ops.size := mem_unlisted.2 ⟨(Array.getElem?_eq_some_iff.1 h2).1, h1⟩
      rw [hnil] at this; simp at this
  | succ fuel ih =>
    intro listed y e h n a w hs hf hy hcl st hk
    refine ⟨fun hr => ?_, fun i hi => ?_⟩
    · have := rdy listed y hs hcl hr
      rw [this] at hf; simp at hf
    · rw [mem_ready] at hi
      obtain ⟨hl, o, ho, hed⟩ := hi
      have him : i < ops.size := (Array.getElem?_eq_some_iff.1 ho).1
      obtain ⟨l, r, h1, h2, h3⟩ := unlisted_split (m := ops.size) him hl
      have hdir : ∀ d ∈ direct o, listed.getD d false = true := by
        intro d hd
        simp only [direct, List.mem_map, List.mem_filter] at hd
        obtain ⟨ed, ⟨g1, g2⟩, rfl⟩ := hd
        exact hed ed (by simpa using g1) g2
      rw [h1] at hy hf
      obtain ⟨yl, io, yr, rfl, g1, g2, g3⟩ := split_map hy
      obtain ⟨o', ho', hco, hdst⟩ := hc i io g1
      rw [ho] at ho'; cases ho'
      have hgood := befG_good hcl ops.toList [] (fun i o h => by simpa using h) (fun j l o hj => by simp at hj)
      have hap : ∀ x ∈ yl, apartB x io = true := by
        intro x hx
        obtain ⟨q, hq⟩ := List.getElem?_of_mem hx
        have hlen : l.length = yl.length := by simpa using congrArg List.length g2
        have hqlt := (List.getElem?_eq_some_iff.1 hq).1
        obtain ⟨io', k1, k2⟩ := mapM_at g2 (i := q) (k := l[q]'(by omega)) (List.getElem?_eq_getElem (by omega))
        rw [hq] at k2; cases k2
        obtain ⟨m1, m2⟩ := h3 (l[q]'(by omega)) (List.getElem_mem _)
        obtain ⟨_, io2, b1, b2⟩ := hbs i o ho
        rw [g1] at b1; cases b1
        rcases b2 _ m1 with b2 | ⟨x', b2, b3⟩
        · exfalso
          have : (befG ops.toList [])[i]? = some ((befG ops.toList []).getD i []) := by
            rw [List.getD_eq_getElem?_getD] at b2 ⊢
            cases hh : (befG ops.toList [])[i]? with
            | none => rw [hh] at b2; simp at b2
            | some z => rfl
          have hLL := hgood i _ o this ho hdir _ b2
          exact ((hDF listed _ (by omega)).1 m2) hLL
        · rw [k1] at b2; cases b2; exact b3
      have hk' := drw_first yl e h n hap hk
      unfold wpOp
      simp only [ho]
      refine oper_sound (P := P) hC hco hdst st (K := fun e h n => drwK Γ (yl ++ yr) e h n K) hk' ?_
      intro e' h' n' a' w' hk'' st'
      refine ih (listed.setIfInBounds i true) (yl ++ yr) e' h' n' a' w' (by simpa using hs) ?_ (by rw [h2]; exact g3) ?_ st' hk''
      · rw [h2]; simp at hf ⊢; omega
      · intro j oj hoj hj d hd
        have hgd : ∀ k, listed.getD k false = true → (listed.setIfInBounds i true).getD k false = true := by
          intro k hk
          by_cases hik : i = k
          · subst hik; simp [Array.getD_eq_getD_getElem?, hs, him]
          · rw [getD_set _ hik]; exact hk
        by_cases hij : i = j
        · subst hij
          rw [ho] at hoj; cases hoj
          exact hgd d (hdir d hd)
        · rw [getD_set _ hij] at hj
          exact hgd d (hcl j oj hoj hj d hd)

theorem drw_sound {Γ : Ctx} (hC : CallOk P (CD Γ)) {ops : Array Oper} {ios : List IOper} {N : Nat} {Q : Exit → Act → World → Prop} {K : Env → Heap → Nat → Prop}
    (hc : ∀ (i : Nat) io, ios[i]? = some io → ∃ o, ops[i]? = some o ∧ cOper P ops o = some io ∧ ∀ t, io.dst = some t → t < N) (hlen : ios.length = ops.size) (hok : drwOk ops ios = true)
    (hQ : ∀ e' h' n' a' w', K e' h' n' → St w0 pass own0 A N e' h' n' a' w' → Q .normal a' w') (st : St w0 pass own0 A N e h n a w) (hk : drwK Γ ios e h n K) :
    wpAny P .any ops Q ops.size (Array.replicate ops.size false) a w := by
  have hu : unlisted (Array.replicate ops.size false) ops.size = List.range ops.size := by
    unfold unlisted
    rw [List.filter_eq_self]
    intro i hi
    simp at hi
    simp [Array.getD_eq_getD_getElem?, hi]
  refine any_sound (P := P) hC hc hok hQ ops.size _ ios e h n a w (by simp) (by rw [hu]; simp) ?_ ?_ st hk
  · rw [hu, ← hlen]
    apply List.ext_getElem? 
    intro i
    by_cases hi : i < ios.length
    · simp [hi]
    · simp [hi]
  · intro j o hj hl
    exfalso
    have := (Array.getElem?_eq_some_iff.1 hj).1
    simp [Array.getD_eq_getD_getElem?, this] at hl

end
end Go.Proofs.Ytpfbkblgefddlaa.Av
