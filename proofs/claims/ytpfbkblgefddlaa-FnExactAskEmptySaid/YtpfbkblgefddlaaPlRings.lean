/- A search in depth; rings; a list turned. No program in sight. -/
import Derived.Test.YtpfbkblgefddlaaPlBfs
namespace Go.Proofs.Ytpfbkblgefddlaa.Pl
set_option linter.unusedSimpArgs false
set_option linter.unusedVariables false

abbrev Nb (N : Nat → List Nat) : Nat → Nat → Prop := fun p r => r ∈ N p
def Mut (A : Nat → Nat → Prop) (p q : Nat) : Prop := Rel1 A p q ∧ Rel1 A q p
theorem Mut.refl {A : Nat → Nat → Prop} {p : Nat} : Mut A p p := ⟨Rel1.refl, Rel1.refl⟩
theorem Mut.symm {A : Nat → Nat → Prop} {p q : Nat} (h : Mut A p q) : Mut A q p := ⟨h.2, h.1⟩
theorem Mut.trans {A : Nat → Nat → Prop} {p q r : Nat} (h : Mut A p q) (h2 : Mut A q r) : Mut A p r := ⟨h.1.trans h2.1, h2.2.trans h.2⟩

/-- The search: what was left (ord), what was seen, the way down (st: the point in turn first, how many of its steps were gone) -/
structure Dfs (N : Nat → List Nat) (n : Nat) (ord : List Nat) (seen : List Bool) (st : List (Nat × Nat)) : Prop where
  len : seen.length = n
  nod : (ord ++ st.map (·.1)).Nodup
  lt : ∀ p ∈ ord ++ st.map (·.1), p < n
  mem : ∀ p, p < n → (seen.getD p false = true ↔ p ∈ ord ++ st.map (·.1))
  gone : ∀ x ∈ st, x.2 ≤ (N x.1).length ∧ ∀ j, j < x.2 → seen.getD ((N x.1).getD j 0) false = true
  blk : ∀ p ∈ ord, ∀ r ∈ N p, seen.getD r false = true
  path : st.Pairwise fun x y => Rel1 (Nb N) y.1 x.1
  fin : ∀ p ∈ ord, (∃ x ∈ st, Mut (Nb N) p x.1) ∨ (∃ a ∈ ord, ord.idxOf p < ord.idxOf a ∧ Mut (Nb N) p a) ∨ ∀ v, Rel1 (Nb N) p v → v ∈ ord ∧ ord.idxOf v ≤ ord.idxOf p

theorem getD_setB {l : List Bool} {i j : Nat} {v : Bool} : (l.set i v).getD j false = if i = j ∧ i < l.length then v else l.getD j false := by
  rw [List.getD_eq_getElem?_getD, List.getElem?_set]
  by_cases h : i = j
  · subst h
    by_cases hl : i < l.length
    · simp [hl]
    · simp [hl]
  · simp [h]

section
variable {N : Nat → List Nat} {n : Nat} {ord : List Nat} {seen : List Bool} {st : List (Nat × Nat)}

theorem nodup_le {l : List Nat} {n : Nat} (hn : l.Nodup) (hl : ∀ p ∈ l, p < n) : l.length ≤ n := by
  have := List.Nodup.length_le_of_subset (l₂ := List.range n) hn (fun p hp => List.mem_range.2 (hl p hp))
  simpa using this

theorem Dfs.length_le (h : Dfs N n ord seen st) : ord.length + st.length ≤ n := by
  have := nodup_le h.nod h.lt
  simpa using this

theorem idx_lt_of {l : List Nat} {a : Nat} (h : a ∈ l) : l.idxOf a < l.length := List.idxOf_lt_length_iff.2 h
theorem idx_app {l : List Nat} {x a : Nat} (h : a ∈ l) : (l ++ [x]).idxOf a = l.idxOf a := by rw [List.idxOf_append, if_pos h]
theorem idx_new {l : List Nat} {x : Nat} (h : x ∉ l) : (l ++ [x]).idxOf x = l.length := by rw [List.idxOf_append, if_neg h]; simp

/-- the point in turn is left -/
theorem Dfs.pop {x : Nat} {k : Nat} (h : Dfs N n ord seen ((x, k) :: st)) (hN : ∀ p, p < n → ∀ r ∈ N p, r < n) (hk : k = (N x).length) : Dfs N n (ord ++ [x]) seen st := by
  have e : ord ++ ((x, k) :: st).map (·.1) = (ord ++ [x]) ++ st.map (·.1) := by simp
  have hx : x ∉ ord := fun hx => by
    have := h.nod
    simp only [List.map_cons] at this
    rw [List.nodup_append] at this
    exact this.2.2 x hx x (by simp) rfl
  have hxn : x < n := h.lt x (by simp)
  have hsx : ∀ r ∈ N x, seen.getD r false = true := fun r hr => by
    obtain ⟨j, hj, hjr⟩ := List.getElem_of_mem hr
    have := (h.gone (x, k) (by simp)).2 j (by simp only; omega)
    have e2 : (N x).getD j 0 = r := by rw [List.getD_eq_getElem?_getD, List.getElem?_eq_getElem hj]; exact hjr
    rw [← e2]; exact this
  have hpath : ∀ y ∈ st, Rel1 (Nb N) y.1 x := fun y hy => (List.pairwise_cons.1 h.path).1 y hy
  refine ⟨h.len, e ▸ h.nod, e ▸ h.lt, fun p hp => by rw [← e]; exact h.mem p hp, fun y hy => h.gone y (by simp [hy]), ?_, (List.pairwise_cons.1 h.path).2, ?_⟩
  · intro p hp r hr
    rcases List.mem_append.1 hp with hp | hp
    · exact h.blk p hp r hr
    · rw [List.mem_singleton.1 hp] at hr
      exact hsx r hr
  · intro p hp
    rcases List.mem_append.1 hp with hp | hp
    · rw [idx_app hp]
      rcases h.fin p hp with ⟨y, hy, hm⟩ | ⟨a, ha, hlt, hm⟩ | hall
      · rcases List.mem_cons.1 hy with rfl | hy
        · exact .inr (.inl ⟨x, by simp, by rw [idx_new hx]; exact idx_lt_of hp, hm⟩)
        · exact .inl ⟨y, hy, hm⟩
      · exact .inr (.inl ⟨a, by simp [ha], by rw [idx_app ha]; exact hlt, hm⟩)
      · refine .inr (.inr fun v hv => ?_)
        obtain ⟨g1, g2⟩ := hall v hv
        exact ⟨by simp [g1], by rw [idx_app g1]; exact g2⟩
    · rw [List.mem_singleton.1 hp]
      by_cases hg : ∃ y ∈ st, Rel1 (Nb N) x y.1
      · obtain ⟨y, hy, hr⟩ := hg
        exact .inl ⟨y, hy, hr, hpath y hy⟩
      · refine .inr (.inr fun v hv => ?_)
        have hmem : v ∈ ord ++ [x] := by
          have hv' : Rch (Nb N) (· = x) v := hv
          induction hv' with
          | base hb => subst hb; simp
          | @step q v hq ha ih =>
            have hqm := ih hq
            have hq : Rel1 (Nb N) x q := hq
            have hqn : q < n := h.lt q (by rw [e]; exact List.mem_append_left _ hqm)
            have hs : seen.getD v false = true := by
              rcases List.mem_append.1 hqm with hqo | hqo
              · exact h.blk q hqo v ha
              · rw [List.mem_singleton.1 hqo] at ha; exact hsx v ha
            have hvm := (h.mem v (hN q hqn v ha)).1 hs
            rw [e] at hvm
            rcases List.mem_append.1 hvm with hvm | hvm
            · exact hvm
            · obtain ⟨y, hy, rfl⟩ := List.mem_map.1 hvm
              exact absurd ⟨y, hy, .step hq ha⟩ hg
        refine ⟨hmem, ?_⟩
        rw [idx_new hx]
        have := idx_lt_of hmem
        simp at this
        omega

/-- one more of the steps of the point in turn is gone, to what was seen -/
theorem Dfs.pass {x : Nat} {k : Nat} (h : Dfs N n ord seen ((x, k) :: st)) (hk : k < (N x).length) (hs : seen.getD ((N x).getD k 0) false = true) : Dfs N n ord seen ((x, k + 1) :: st) := by
  refine ⟨h.len, h.nod, h.lt, h.mem, fun y hy => ?_, h.blk, ?_, fun p hp => ?_⟩
  · rcases List.mem_cons.1 hy with rfl | hy
    · refine ⟨hk, fun j hj => ?_⟩
      by_cases hjk : j = k
      · subst hjk; exact hs
      · exact (h.gone (x, k) (by simp)).2 j (by simp only at hj ⊢; omega)
    · exact h.gone y (by simp [hy])
  · exact List.pairwise_cons.2 ⟨(List.pairwise_cons.1 h.path).1, (List.pairwise_cons.1 h.path).2⟩
  · rcases h.fin p hp with ⟨y, hy, hm⟩ | hh
    · rcases List.mem_cons.1 hy with rfl | hy
      · exact .inl ⟨(x, k + 1), by simp, hm⟩
      · exact .inl ⟨y, by simp [hy], hm⟩
    · exact .inr hh

/-- the same way down, other steps gone -/
theorem Dfs.same (h : Dfs N n ord seen st) {st' : List (Nat × Nat)} (hm : st'.map (·.1) = st.map (·.1)) (hg : ∀ x ∈ st', x.2 ≤ (N x.1).length ∧ ∀ j, j < x.2 → seen.getD ((N x.1).getD j 0) false = true) : Dfs N n ord seen st' := by
  refine ⟨h.len, by rw [hm]; exact h.nod, by rw [hm]; exact h.lt, by rw [hm]; exact h.mem, hg, h.blk, ?_, fun p hp => ?_⟩
  · have h1 : (st.map (·.1)).Pairwise fun a b => Rel1 (Nb N) b a := List.pairwise_map.2 h.path
    rw [← hm] at h1
    exact List.pairwise_map.1 h1
  · rcases h.fin p hp with ⟨y, hy, hmu⟩ | hh
    · have : y.1 ∈ st'.map (·.1) := by rw [hm]; exact List.mem_map.2 ⟨y, hy, rfl⟩
      obtain ⟨z, hz, he⟩ := List.mem_map.1 this
      exact .inl ⟨z, hz, by rw [he]; exact hmu⟩
    · exact .inr hh

/-- a point that was not seen comes -/
theorem Dfs.push {r : Nat} (h : Dfs N n ord seen st) (hr : r < n) (hs : seen.getD r false = false) (hp : ∀ y ∈ st, Rel1 (Nb N) y.1 r) : Dfs N n ord (seen.set r true) ((r, 0) :: st) := by
  have hnm : r ∉ ord ++ st.map (·.1) := fun hm => by rw [(h.mem r hr).2 hm] at hs; cases hs
  have hset : ∀ j, (seen.set r true).getD j false = true ↔ r = j ∨ seen.getD j false = true := fun j => by
    rw [getD_setB]
    have := h.len
    by_cases hrj : r = j
    · rw [if_pos ⟨hrj, by omega⟩]; simp [hrj]
    · rw [if_neg (fun hh => hrj hh.1)]; simp [hrj]
  have hmem : ∀ p, p ∈ ord ++ ((r, 0) :: st).map (·.1) ↔ p = r ∨ p ∈ ord ++ st.map (·.1) := fun p => by simp only [List.map_cons, List.mem_append, List.mem_cons]; grind
  refine ⟨by rw [List.length_set]; exact h.len, ?_, fun p hpm => ?_, fun p hpn => ?_, fun y hy => ?_, fun p hpo q hq => (hset q).2 (.inr (h.blk p hpo q hq)), ?_, fun p hpo => ?_⟩
  · have := List.perm_middle (a := r) (l₁ := ord) (l₂ := st.map (·.1))
    simp only [List.map_cons]
    rw [this.nodup_iff, List.nodup_cons]
    exact ⟨hnm, h.nod⟩
  · rcases (hmem p).1 hpm with rfl | hpm
    · exact hr
    · exact h.lt p hpm
  · rw [hset, hmem, h.mem p hpn, eq_comm (a := r)]
  · rcases List.mem_cons.1 hy with rfl | hy
    · exact ⟨Nat.zero_le _, fun j hj => absurd hj (Nat.not_lt_zero _)⟩
    · exact ⟨(h.gone y hy).1, fun j hj => (hset _).2 (.inr ((h.gone y hy).2 j hj))⟩
  · exact List.pairwise_cons.2 ⟨hp, h.path⟩
  · rcases h.fin p hpo with ⟨y, hy, hm⟩ | hh
    · exact .inl ⟨y, by simp [hy], hm⟩
    · exact .inr hh

/-- a step down -/
theorem Dfs.down {x k r : Nat} (h : Dfs N n ord seen ((x, k) :: st)) (hk : k < (N x).length) (hr : (N x).getD k 0 = r) (hrn : r < n) (hs : seen.getD r false = false) : Dfs N n ord (seen.set r true) ((r, 0) :: (x, k + 1) :: st) := by
  have hmem : r ∈ N x := by
    rw [← hr, List.getD_eq_getElem?_getD, List.getElem?_eq_getElem hk]
    exact List.getElem_mem hk
  have h1 := h.push hrn hs (fun y hy => by
    have hyx : Rel1 (Nb N) y.1 x := by
      rcases List.mem_cons.1 hy with rfl | hy
      · exact Rel1.refl
      · exact (List.pairwise_cons.1 h.path).1 y hy
    exact .step hyx hmem)
  refine h1.same rfl fun y hy => ?_
  rcases List.mem_cons.1 hy with rfl | hy
  · exact h1.gone _ (by simp)
  rcases List.mem_cons.1 hy with rfl | hy
  · have h2 := h1.gone (x, k) (by simp)
    refine ⟨hk, fun j hj => ?_⟩
    by_cases hjk : j = k
    · subst hjk
      rw [hr, getD_setB, if_pos ⟨rfl, by rw [h.len]; exact hrn⟩]
    · exact h2.2 j (by simp only at hj ⊢; omega)
  · exact h1.gone y (by simp [hy])

end

theorem dfs_start (N : Nat → List Nat) (n : Nat) : Dfs N n [] (List.replicate n false) [] := by
  refine ⟨by simp, by simp, by simp, fun p hp => ?_, by simp, by simp, by simp, by simp⟩
  simp [List.getD_eq_getElem?_getD, List.getElem?_replicate]
  split <;> simp

/-- how much is left to do -/
def us (N : Nat → List Nat) : List Bool → Nat → Nat
  | [], _ => 0
  | b :: l, i => (if b = true then 0 else (N i).length + 2) + us N l (i + 1)
def ds (N : Nat → List Nat) : List (Nat × Nat) → Nat
  | [] => 0
  | x :: l => ((N x.1).length - x.2 + 1) + ds N l
theorem us_set (N : Nat → List Nat) : ∀ (l : List Bool) (i r : Nat), r < l.length → l.getD r false = false → us N (l.set r true) i + ((N (i + r)).length + 2) = us N l i
  | [], _, _, h, _ => by simp at h
  | b :: l, i, 0, _, h => by
    have : b = false := by simpa using h
    subst this
    simp [us]
    omega
  | b :: l, i, r + 1, h, h2 => by
    have ih := us_set N l (i + 1) r (by simpa using h) (by simpa using h2)
    simp only [List.set_cons_succ, us]
    rw [show i + (r + 1) = i + 1 + r by omega]
    omega

/-- what the order is good for -/
structure Order (N : Nat → List Nat) (n : Nat) (ord : List Nat) : Prop where
  nod : ord.Nodup
  lt : ∀ p ∈ ord, p < n
  all : ∀ p, p < n → p ∈ ord
  fin : ∀ p ∈ ord, (∃ a ∈ ord, ord.idxOf p < ord.idxOf a ∧ Mut (Nb N) p a) ∨ ∀ v, Rel1 (Nb N) p v → v ∈ ord ∧ ord.idxOf v ≤ ord.idxOf p

theorem Dfs.order {N : Nat → List Nat} {n : Nat} {ord : List Nat} {seen : List Bool} (h : Dfs N n ord seen []) (hs : ∀ p, p < n → seen.getD p false = true) : Order N n ord := by
  refine ⟨by simpa using h.nod, fun p hp => h.lt p (by simp [hp]), fun p hp => by simpa using (h.mem p hp).1 (hs p hp), fun p hp => ?_⟩
  rcases h.fin p hp with ⟨y, hy, _⟩ | hh
  · simp at hy
  · exact hh

theorem Order.length {N : Nat → List Nat} {n : Nat} {ord : List Nat} (h : Order N n ord) : ord.length = n := by
  have h1 := nodup_le h.nod h.lt
  have h2 := List.Nodup.length_le_of_subset (l₁ := List.range n) (l₂ := ord) List.nodup_range (fun p hp => h.all p (List.mem_range.1 hp))
  simp at h2
  omega

/-- the last one left of those with which a point is mutually reached -/
theorem Order.last {N : Nat → List Nat} {n : Nat} {ord : List Nat} (h : Order N n ord) : ∀ (k : Nat) (p : Nat), p ∈ ord → ord.length - ord.idxOf p ≤ k → ∃ w ∈ ord, Mut (Nb N) p w ∧ ∀ v, Rel1 (Nb N) w v → v ∈ ord ∧ ord.idxOf v ≤ ord.idxOf w
  | 0, p, hp, hk => by have := idx_lt_of hp; omega
  | k + 1, p, hp, hk => by
    rcases h.fin p hp with ⟨a, ha, hlt, hm⟩ | hall
    · obtain ⟨w, h1, h2, h3⟩ := h.last k a ha (by omega)
      exact ⟨w, h1, hm.trans h2, h3⟩
    · exact ⟨p, hp, Mut.refl, hall⟩

end Go.Proofs.Ytpfbkblgefddlaa.Pl

namespace Go.Proofs.Ytpfbkblgefddlaa.Pl
set_option linter.unusedSimpArgs false
set_option linter.unusedVariables false

/-- The rings told of the first k roots (the last left first). -/
structure Rings (A : Nat → Nat → Prop) (n : Nat) (R : List Nat) (k : Nat) (out : List Int) : Prop where
  len : out.length = n
  told : ∀ p, p < n → out.getD p 0 = -1 ∨ ∃ j, j < k ∧ j < R.length ∧ out.getD p 0 = (j : Int) ∧ Mut A p (R.getD j 0)
  whole : ∀ p q, p < n → q < n → Mut A p q → 0 ≤ out.getD p 0 → out.getD q 0 = out.getD p 0
  first : ∀ j, j < k → j < R.length → 0 ≤ out.getD (R.getD j 0) 0

theorem Rings.neg {A : Nat → Nat → Prop} {n : Nat} {R : List Nat} {k : Nat} {out : List Int} (h : Rings A n R k out) {p : Nat} (hp : p < n) (hd : out.getD p 0 < 0) : out.getD p 0 = -1 := by
  rcases h.told p hp with h1 | ⟨j, _, _, h1, _⟩
  · exact h1
  · omega

/-- One ring, as it is told: out0 ahead of it, root its first, st what waits; seen: which steps to the one in turn (c) were seen -/
structure Ring (A : Nat → Nat → Prop) (n k root : Nat) (out0 out : List Int) (st : List Nat) (c : Option Nat) (seen : Nat → Prop) : Prop where
  len : out.length = n
  old : ∀ p, p < n → out.getD p 0 = out0.getD p 0 ∨ (out0.getD p 0 < 0 ∧ out.getD p 0 = (k : Int) ∧ Rel1 A p root)
  wait : ∀ p ∈ st, p < n ∧ out.getD p 0 = (k : Int)
  root : out.getD root 0 = (k : Int)
  proc : ∀ p, p < n → out.getD p 0 = (k : Int) → out0.getD p 0 < 0 → p ∉ st → (∀ r, r < n → A r p → (c = some p → seen r) → 0 ≤ out.getD r 0)
  cur : ∀ p, c = some p → p < n ∧ out.getD p 0 = (k : Int) ∧ out0.getD p 0 < 0

section
variable {A : Nat → Nat → Prop} {n k root : Nat} {out0 out : List Int} {st : List Nat} {c : Option Nat} {seen : Nat → Prop}

theorem ring_start (hlen : out0.length = n) (hr : root < n) (h0 : out0.getD root 0 < 0) : Ring A n k root out0 (out0.set root k) [root] none fun _ => False := by
  have hset : ∀ p, (out0.set root (k : Int)).getD p 0 = if root = p then (k : Int) else out0.getD p 0 := fun p => by
    rw [getD_set]
    by_cases hrp : root = p
    · rw [if_pos ⟨hrp, by omega⟩, if_pos hrp]
    · rw [if_neg (fun hh => hrp hh.1), if_neg hrp]
  refine ⟨by rw [List.length_set]; exact hlen, fun p hp => ?_, fun p hp => ?_, by rw [hset, if_pos rfl], fun p hp hk h1 hs => ?_, fun p hp => by cases hp⟩
  · rw [hset]
    by_cases hrp : root = p
    · subst hrp
      rw [if_pos rfl]
      exact .inr ⟨h0, rfl, Rel1.refl⟩
    · rw [if_neg hrp]; exact .inl rfl
  · rw [List.mem_singleton.1 hp]
    exact ⟨hr, by rw [hset, if_pos rfl]⟩
  · rw [hset] at hk
    by_cases hrp : root = p
    · exact absurd (by simp [hrp]) hs
    · rw [if_neg hrp] at hk; omega

/-- the one that waits last is taken -/
theorem Ring.take {p : Nat} {l : List Nat} (h : Ring A n k root out0 out (l ++ [p]) none seen) (hp0 : ∀ q, q < n → out0.getD q 0 < (k : Int)) : Ring A n k root out0 out l (some p) fun _ => False := by
  obtain ⟨h1, h2⟩ := h.wait p (by simp)
  have h3 : out0.getD p 0 < 0 := by
    rcases h.old p h1 with h4 | ⟨h4, _⟩
    · have := hp0 p h1; omega
    · exact h4
  refine ⟨h.len, h.old, fun q hq => h.wait q (by simp [hq]), h.root, fun q hq hk hq0 hnl r hr ha hs => ?_, fun q hq => by cases hq; exact ⟨h1, h2, h3⟩⟩
  by_cases hqp : q = p
  · subst hqp; exact (hs rfl).elim
  · exact h.proc q hq hk hq0 (by simp [hnl, hqp]) r hr ha (fun e => by cases e)

theorem Ring.see (h : Ring A n k root out0 out st c seen) {seen' : Nat → Prop} (hs : ∀ p, c = some p → ∀ r, r < n → A r p → seen' r → seen r ∨ 0 ≤ out.getD r 0) : Ring A n k root out0 out st c seen' := by
  refine ⟨h.len, h.old, h.wait, h.root, fun q hq hk hq0 hns r hr ha hsr => ?_, h.cur⟩
  by_cases hc : c = some q
  · rcases hs q hc r hr ha (hsr hc) with h1 | h1
    · exact h.proc q hq hk hq0 hns r hr ha (fun _ => h1)
    · exact h1
  · exact h.proc q hq hk hq0 hns r hr ha (fun e => absurd e hc)

/-- all steps to the one in turn were seen -/
theorem Ring.done (h : Ring A n k root out0 out st c seen) (hs : ∀ p, c = some p → ∀ r, r < n → A r p → seen r) : Ring A n k root out0 out st none fun _ => False := by
  refine ⟨h.len, h.old, h.wait, h.root, fun q hq hk hq0 hns r hr ha _ => h.proc q hq hk hq0 hns r hr ha (fun e => hs q e r hr ha), fun q hq => by cases hq⟩

/-- one more is told -/
theorem Ring.push {p r : Nat} (h : Ring A n k root out0 out st (some p) seen) (hr : r < n) (ha : A r p) (hn : out.getD r 0 < 0) : Ring A n k root out0 (out.set r k) (st ++ [r]) (some p) seen := by
  obtain ⟨hp, hpk, hp0⟩ := h.cur p rfl
  have hlen := h.len
  have hset : ∀ q, (out.set r (k : Int)).getD q 0 = if r = q then (k : Int) else out.getD q 0 := fun q => by
    rw [getD_set]
    by_cases hrp : r = q
    · rw [if_pos ⟨hrp, by omega⟩, if_pos hrp]
    · rw [if_neg (fun hh => hrp hh.1), if_neg hrp]
  have hpr : Rel1 A p root := by
    rcases h.old p hp with h1 | ⟨_, _, h1⟩
    · omega
    · exact h1
  have hr0 : out0.getD r 0 < 0 := by
    rcases h.old r hr with h1 | ⟨h1, _⟩
    · omega
    · exact h1
  refine ⟨by rw [List.length_set]; exact hlen, fun q hq => ?_, fun q hq => ?_, ?_, fun q hq hk hq0 hns s hs has hss => ?_, fun q hq => ?_⟩
  · rw [hset]
    by_cases hrq : r = q
    · subst hrq
      rw [if_pos rfl]
      exact .inr ⟨hr0, rfl, .head ha hpr⟩
    · rw [if_neg hrq]; exact h.old q hq
  · rw [hset]
    rcases List.mem_append.1 hq with hq | hq
    · obtain ⟨h1, h2⟩ := h.wait q hq
      exact ⟨h1, by split; rfl; exact h2⟩
    · rw [List.mem_singleton.1 hq, if_pos rfl]
      exact ⟨hr, rfl⟩
  · rw [hset]; split; rfl; exact h.root
  · rw [hset] at hk ⊢
    by_cases hrq : r = q
    · subst hrq; exact absurd (by simp) hns
    · rw [if_neg hrq] at hk
      have := h.proc q hq hk hq0 (fun hm => hns (by simp [hm])) s hs has hss
      split <;> omega
  · cases hq
    refine ⟨hp, ?_, hp0⟩
    rw [hset]; split; rfl; exact hpk

/-- a ring is told whole -/
theorem Ring.fin {N : Nat → List Nat} {ord : List Nat} (hA : A = Nb N) (hN : ∀ p, p < n → ∀ r ∈ N p, r < n) (ho : Order N n ord) (hk : k < ord.length) (hroot : root = ord.reverse.getD k 0) (h0 : Rings A n ord.reverse k out0) (hr0 : out0.getD root 0 < 0)
    (h : Ring A n k root out0 out [] none seen) : Rings A n ord.reverse (k + 1) out := by
  subst hA
  have hol := ho.length
  have hrn : root < n := by
    rw [hroot]
    refine ho.lt _ ?_
    rw [List.getD_eq_getElem?_getD, List.getElem?_eq_getElem (by simpa using hk)]
    exact List.mem_reverse.1 (List.getElem_mem _)
  have hrmem : root ∈ ord := ho.all root hrn
  -- what stands in the order at a place from behind
  have hat : ∀ p, p ∈ ord → ord.reverse.getD (ord.length - 1 - ord.idxOf p) 0 = p := fun p hp => by
    have hi := idx_lt_of hp
    rw [List.getD_eq_getElem?_getD, List.getElem?_eq_getElem (by simp; omega), List.getElem_reverse]
    simp only [Option.getD_some]
    have e : ord.length - 1 - (ord.length - 1 - ord.idxOf p) = ord.idxOf p := by omega
    simp only [e]
    exact List.getElem_idxOf hi
  have hidx : ord.idxOf root = ord.length - 1 - k := by
    have hlt : ord.length - 1 - k < ord.length := by omega
    have e : root = ord[ord.length - 1 - k] := by
      rw [hroot, List.getD_eq_getElem?_getD, List.getElem?_eq_getElem (by simpa using hk), List.getElem_reverse]
      rfl
    rw [e]
    exact ho.nod.idxOf_getElem _ hlt
  -- those that were not told and lead to the root are led to by it
  have hback : ∀ p, p < n → out0.getD p 0 < 0 → Rel1 (Nb N) p root → Mut (Nb N) p root := by
    intro p hp hp0 hpr
    obtain ⟨w, hw, hm, hall⟩ := ho.last ord.length p (ho.all p hp) (by omega)
    have hwn := ho.lt w hw
    have hw0 : out0.getD w 0 < 0 := by
      rcases Int.lt_or_le (out0.getD w 0) 0 with h1 | h1
      · exact h1
      · have := h0.whole w p hwn hp hm.symm h1; omega
    have h1 := (hall root (hm.2.trans hpr)).2
    have h2 : k ≤ ord.length - 1 - ord.idxOf w := by
      rcases Nat.lt_or_ge (ord.length - 1 - ord.idxOf w) k with h3 | h3
      · have hi := idx_lt_of hw
        have := h0.first _ h3 (by simp; omega)
        rw [hat w hw] at this
        omega
      · exact h3
    have hi := idx_lt_of hw
    have e : ord.idxOf w = ord.idxOf root := by omega
    have hwr : w = root := by
      have e1 := List.getElem_idxOf hi
      have e2 := List.getElem_idxOf (idx_lt_of hrmem)
      rw [← e1, ← e2]
      congr 1
    rw [← hwr]; exact hm
  have hring : ∀ p, p < n → (out.getD p 0 = (k : Int) ∧ out0.getD p 0 < 0) → Mut (Nb N) p root := fun p hp hh => by
    rcases h.old p hp with h1 | ⟨h1, _, h2⟩
    · omega
    · exact hback p hp h1 h2
  have h0k : ∀ p, p < n → out0.getD p 0 < (k : Int) := fun p hp => by
    rcases h0.told p hp with h1 | ⟨j, h1, _, h2, _⟩ <;> omega
  have hall : ∀ p, Rel1 (Nb N) root p → p < n := fun p hp => by
    have hp' : Rch (Nb N) (· = root) p := hp
    induction hp' with
    | base hb => subst hb; exact hrn
    | @step q p hq ha ih => exact hN q (ih hq) p ha
  have hmem : ∀ p, Mut (Nb N) p root → out.getD p 0 = (k : Int) ∧ out0.getD p 0 < 0 := by
    intro p hm
    have ht : Rch (fun x y => Nb N y x) (· = root) p := hm.1.turn
    have hrp := hm.2
    clear hm
    induction ht with
    | base hb => subst hb; exact ⟨h.root, hr0⟩
    | @step y x hy ha ih =>
      have hxy : Rel1 (Nb N) root y := hrp.trans (Rel1.one ha)
      obtain ⟨g1, g2⟩ := ih hxy
      have hxn := hall x hrp
      have hyn := hall y hxy
      have hge := h.proc y hyn g1 g2 (by simp) x hxn ha (fun e => by cases e)
      have hx0 : out0.getD x 0 < 0 := by
        rcases Int.lt_or_le (out0.getD x 0) 0 with h1 | h1
        · exact h1
        · have hyr : Rel1 (Nb N) y root := (hring y hyn ⟨g1, g2⟩).1
          have := h0.whole x root hxn hrn ⟨(Rel1.one ha).trans hyr, hrp⟩ h1
          omega
      refine ⟨?_, hx0⟩
      rcases h.old x hxn with h1 | ⟨_, h1, _⟩
      · omega
      · exact h1
  refine ⟨h.len, fun p hp => ?_, fun p q hp hq hm hpos => ?_, fun j hj hjl => ?_⟩
  · rcases h.old p hp with h1 | ⟨h1, h2, _⟩
    · rw [h1]
      rcases h0.told p hp with h2 | ⟨j, h2, h3⟩
      · exact .inl h2
      · exact .inr ⟨j, by omega, h3⟩
    · exact .inr ⟨k, by omega, by simpa using hk, h2, by rw [← hroot]; exact hring p hp ⟨h2, h1⟩⟩
  · by_cases hp0 : out0.getD p 0 < 0
    · have hpk : out.getD p 0 = (k : Int) := by
        rcases h.old p hp with h1 | ⟨_, h1, _⟩
        · omega
        · exact h1
      rw [hpk]
      exact (hmem q (hm.symm.trans (hring p hp ⟨hpk, hp0⟩))).1
    · have hq0 := h0.whole p q hp hq hm (by omega)
      have e1 : out.getD p 0 = out0.getD p 0 := by
        rcases h.old p hp with h1 | ⟨h1, _⟩
        · exact h1
        · omega
      have e2 : out.getD q 0 = out0.getD q 0 := by
        rcases h.old q hq with h1 | ⟨h1, _⟩
        · exact h1
        · omega
      rw [e1, e2, hq0]
  · by_cases hjk : j = k
    · subst hjk
      rw [← hroot, h.root]; omega
    · have h1 := h0.first j (by omega) hjl
      have hjn : ord.reverse.getD j 0 < n := by
        refine ho.lt _ ?_
        rw [List.getD_eq_getElem?_getD, List.getElem?_eq_getElem hjl]
        exact List.mem_reverse.1 (List.getElem_mem _)
      rcases h.old _ hjn with h2 | ⟨h2, _⟩
      · rw [h2]; exact h1
      · omega

end

/-- a root that was told already -/
theorem Rings.skip {A : Nat → Nat → Prop} {n : Nat} {R : List Nat} {k : Nat} {out : List Int} (h : Rings A n R k out) (hk : k < R.length → 0 ≤ out.getD (R.getD k 0) 0) : Rings A n R (k + 1) out := by
  refine ⟨h.len, fun p hp => ?_, h.whole, fun j hj hjl => ?_⟩
  · rcases h.told p hp with h2 | ⟨j, h2, h3⟩
    · exact .inl h2
    · exact .inr ⟨j, by omega, h3⟩
  · by_cases hjk : j = k
    · subst hjk; exact hk hjl
    · exact h.first j (by omega) hjl

theorem rings_start (A : Nat → Nat → Prop) (n : Nat) (R : List Nat) : Rings A n R 0 (List.replicate n (-1)) := by
  have hrep : ∀ p, p < n → (List.replicate n (-1 : Int)).getD p 0 = -1 := fun p hp => by simp [List.getD_eq_getElem?_getD, List.getElem?_replicate, hp]
  exact ⟨by simp, fun p hp => .inl (hrep p hp), fun p q hp _ _ h => by rw [hrep p hp] at h; omega, fun j hj => by omega⟩

/-- What the numbers of rings say. -/
def IsRings (A : Nat → Nat → Prop) (n : Nat) (out : List Int) : Prop :=
  out.length = n ∧ (∀ p, p < n → 0 ≤ out.getD p 0 ∧ out.getD p 0 < n) ∧ ∀ p q, p < n → q < n → (out.getD p 0 = out.getD q 0 ↔ Mut A p q)

theorem Rings.fin {N : Nat → List Nat} {n : Nat} {ord : List Nat} {out : List Int} (ho : Order N n ord) {k : Nat} (hk : ord.length ≤ k) (h : Rings (Nb N) n ord.reverse k out) : IsRings (Nb N) n out := by
  have hol := ho.length
  have hpos : ∀ p, p < n → 0 ≤ out.getD p 0 := fun p hp => by
    obtain ⟨j, hj, hjp⟩ := List.getElem_of_mem (List.mem_reverse.2 (ho.all p hp))
    have := h.first j (by simp at hj; omega) hj
    have e2 : ord.reverse.getD j 0 = p := by rw [List.getD_eq_getElem?_getD, List.getElem?_eq_getElem hj]; exact hjp
    rw [← e2]; exact this
  refine ⟨h.len, fun p hp => ⟨hpos p hp, ?_⟩, fun p q hp hq => ⟨fun he => ?_, fun hm => (h.whole p q hp hq hm (hpos p hp)).symm⟩⟩
  · have := hpos p hp
    rcases h.told p hp with h1 | ⟨j, _, h1, h2, _⟩
    · omega
    · simp at h1; omega
  · have := hpos p hp
    rcases h.told p hp with h1 | ⟨j, _, _, h2, h3⟩
    · omega
    · rcases h.told q hq with g1 | ⟨j', _, _, g2, g3⟩
      · omega
      · have : j = j' := by omega
        subst this
        exact h3.trans g3.symm

end Go.Proofs.Ytpfbkblgefddlaa.Pl

namespace Go.Proofs.Ytpfbkblgefddlaa.Pl
set_option linter.unusedSimpArgs false
set_option linter.unusedVariables false

/-- i from each end have changed places -/
def revI (l : List Int) (i : Nat) : List Int := (List.range l.length).map fun k => if k < i ∨ l.length ≤ k + i then l.getD (l.length - 1 - k) 0 else l.getD k 0
theorem length_revI {l : List Int} {i : Nat} : (revI l i).length = l.length := by simp [revI]
theorem revI_at {l : List Int} {i k : Nat} (h : k < l.length) : (revI l i).getD k 0 = if k < i ∨ l.length ≤ k + i then l.getD (l.length - 1 - k) 0 else l.getD k 0 := by
  simp [revI, List.getD_eq_getElem?_getD, List.getElem?_map, List.getElem?_range, h]
theorem ext_D {a b : List Int} (h : a.length = b.length) (hj : ∀ j, j < a.length → a.getD j 0 = b.getD j 0) : a = b := by
  refine List.ext_getElem h fun j h1 h2 => ?_
  have := hj j h1
  rwa [List.getD_eq_getElem?_getD, List.getD_eq_getElem?_getD, List.getElem?_eq_getElem h1, List.getElem?_eq_getElem h2] at this
theorem revI_zero (l : List Int) : revI l 0 = l := ext_D length_revI fun j hj => by
  rw [length_revI] at hj
  rw [revI_at hj, if_neg (by omega)]
theorem revI_end {l : List Int} {i : Nat} (h : l.length ≤ 2 * i + 1) : revI l i = l.reverse := ext_D (by simp [length_revI]) fun j hj => by
  rw [length_revI] at hj
  rw [revI_at hj]
  have e : l.reverse.getD j 0 = l.getD (l.length - 1 - j) 0 := by
    rw [List.getD_eq_getElem?_getD, List.getD_eq_getElem?_getD, List.getElem?_reverse hj]
  rw [e]
  split
  · rfl
  · rw [show l.length - 1 - j = j by omega]
theorem revI_step {l : List Int} {i j : Nat} (h : 2 * i + 1 < l.length) (hj : j = l.length - 1 - i) : ((revI l i).set i ((revI l i).getD j 0)).set j ((revI l i).getD i 0) = revI l (i + 1) := by
  subst hj
  refine ext_D (by simp [length_revI]) fun k hk => ?_
  simp only [List.length_set, length_revI] at hk
  rw [getD_set, getD_set, List.length_set, length_revI, revI_at (by omega), revI_at (by omega), revI_at hk, revI_at hk]
  by_cases h1 : l.length - 1 - i = k
  · rw [if_pos ⟨h1, by omega⟩, if_neg (by omega), if_pos (by omega)]
    congr 1; omega
  · rw [if_neg (fun hh => h1 hh.1)]
    by_cases h2 : i = k
    · rw [if_pos ⟨h2, by omega⟩, if_neg (by omega), if_pos (by omega)]
      congr 1; omega
    · rw [if_neg (fun hh => h2 hh.1)]
      by_cases h3 : k < i ∨ l.length ≤ k + i
      · rw [if_pos h3, if_pos (by omega)]
      · rw [if_neg h3, if_neg (by omega)]

end Go.Proofs.Ytpfbkblgefddlaa.Pl
