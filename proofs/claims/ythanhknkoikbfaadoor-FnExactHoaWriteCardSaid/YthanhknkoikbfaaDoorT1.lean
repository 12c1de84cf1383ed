/- Part 1 of the proof of FnExactHoaWriteCardSaid: PlBits to PlPath. Conditions: none. -/
import Derived.KernelRfl
set_option linter.unusedSimpArgs false
set_option linter.unusedVariables false
namespace Go.Proofs.YthanhknkoikbfaaDoor.Pl
theorem testBit_ins {X i j : Nat} : (X ||| 2 ^ i).testBit j = true ↔ X.testBit j = true ∨ j = i := by
  rw [Nat.testBit_or, Nat.testBit_two_pow, Bool.or_eq_true, decide_eq_true_eq, eq_comm (a := i)]
theorem bit_lt {X n i : Nat} (h : X < 2 ^ n) (hb : X.testBit i = true) : i < n := by
  rcases Nat.lt_or_ge i n with hi | hi
  · exact hi
  · have : X < 2 ^ i := Nat.lt_of_lt_of_le h (Nat.pow_le_pow_right (by decide) hi)
    rw [Nat.testBit_lt_two_pow this] at hb
    cases hb
theorem bits_ext {X Y : Nat} (h : ∀ i, X.testBit i = true ↔ Y.testBit i = true) : X = Y :=
  Nat.eq_of_testBit_eq fun i => Bool.eq_iff_iff.2 (h i)
theorem ins_lt {X i n : Nat} (h : X < 2 ^ n) (hi : i < n) : X ||| 2 ^ i < 2 ^ n :=
  Nat.or_lt_two_pow h (Nat.pow_lt_pow_right (by decide) hi)
/-! ### what steps lead to -/
inductive Rch (A : Nat → Nat → Prop) (S : Nat → Prop) : Nat → Prop where
  | base {p : Nat} (h : S p) : Rch A S p
  | step {q p : Nat} (h : Rch A S q) (ha : A q p) : Rch A S p
theorem Rch.mono {A : Nat → Nat → Prop} {S T : Nat → Prop} (h : ∀ p, S p → Rch A T p) {p : Nat} (hp : Rch A S p) : Rch A T p := by
  induction hp with
  | base hs => exact h _ hs
  | step _ ha ih => exact .step ih ha
abbrev Rel1 (A : Nat → Nat → Prop) (p q : Nat) : Prop := Rch A (· = p) q
theorem Rel1.refl {A : Nat → Nat → Prop} {p : Nat} : Rel1 A p p := .base rfl
theorem Rel1.trans {A : Nat → Nat → Prop} {p q r : Nat} (h1 : Rel1 A p q) (h2 : Rel1 A q r) : Rel1 A p r := h2.mono fun x hx => hx ▸ h1
theorem Rel1.one {A : Nat → Nat → Prop} {p q : Nat} (h : A p q) : Rel1 A p q := .step Rel1.refl h
theorem Rel1.head {A : Nat → Nat → Prop} {p q r : Nat} (h : A p q) (h2 : Rel1 A q r) : Rel1 A p r := (Rel1.one h).trans h2
theorem Rel1.turn {A : Nat → Nat → Prop} {p q : Nat} (h : Rel1 A p q) : Rel1 (fun x y => A y x) q p := by
  induction h with
  | base h => subst h; exact Rel1.refl
  | step _ ha ih => exact Rel1.head (A := fun x y => A y x) ha ih
def Walk (A : Nat → Nat → Prop) (S : Nat → Prop) : Nat → Nat → Prop
  | 0, p => S p
  | k + 1, p => ∃ q, Walk A S k q ∧ A q p
open Classical in
theorem least (P : Nat → Prop) (h : ∃ k, P k) : ∃ k, P k ∧ ∀ j, P j → k ≤ j := by
  obtain ⟨m, hm⟩ := h
  induction m using Nat.strongRecOn with
  | _ m ih =>
    by_cases hc : ∃ k, k < m ∧ P k
    · obtain ⟨k, h1, h2⟩ := hc; exact ih k h1 h2
    · exact ⟨m, hm, fun k hk => Nat.le_of_not_lt fun hl => hc ⟨k, hl, hk⟩⟩
open Classical in
noncomputable def distI (A : Nat → Nat → Prop) (S : Nat → Prop) (p : Nat) : Int :=
  if h : ∃ k, Walk A S k p then ((Classical.choose (least _ h) : Nat) : Int) else -1
def IsDist (A : Nat → Nat → Prop) (S : Nat → Prop) (p : Nat) (d : Int) : Prop := 0 ≤ d ∧ Walk A S d.toNat p ∧ ∀ k, Walk A S k p → d ≤ (k : Int)
theorem dist_of {A : Nat → Nat → Prop} {S : Nat → Prop} {p : Nat} {d : Int} (h : IsDist A S p d) : distI A S p = d := by
  obtain ⟨h0, h1, h2⟩ := h
  have hex : ∃ k, Walk A S k p := ⟨_, h1⟩
  unfold distI
  rw [dif_pos hex]
  obtain ⟨g1, g2⟩ := Classical.choose_spec (least _ hex)
  have := h2 _ g1
  have := g2 _ h1
  omega
theorem dist_none {A : Nat → Nat → Prop} {S : Nat → Prop} {p : Nat} (h : ∀ k, ¬ Walk A S k p) : distI A S p = -1 := by
  unfold distI
  rw [dif_neg (fun ⟨k, hk⟩ => h k hk)]
noncomputable def farL (A : Nat → Nat → Prop) (S : Nat → Prop) (n : Nat) : List Int := (List.range n).map (distI A S)
theorem length_farL {A : Nat → Nat → Prop} {S : Nat → Prop} {n : Nat} : (farL A S n).length = n := by simp [farL]
theorem getD_set {l : List Int} {i j : Nat} {v : Int} : (l.set i v).getD j 0 = if i = j ∧ i < l.length then v else l.getD j 0 := by
  rw [List.getD_eq_getElem?_getD, List.getElem?_set]
  by_cases h : i = j
  · subst h
    by_cases hl : i < l.length
    · simp [hl]
    · simp [hl]
  · simp [h]
def left (d : List Int) : Nat := d.countP fun x => decide (x < 0)
theorem left_set {d : List Int} {r : Nat} {v : Int} (hr : r < d.length) (h : d.getD r 0 < 0) (hv : 0 ≤ v) : left (d.set r v) + 1 = left d := by
  unfold left
  rw [List.countP_set hr]
  have hd : d[r] < 0 := by rwa [List.getD_eq_getElem?_getD, List.getElem?_eq_getElem hr] at h
  have hpos : 0 < d.countP fun x => decide (x < 0) := List.countP_pos_iff.2 ⟨d[r], List.getElem_mem hr, by simpa using hd⟩
  have hv' : ¬ v < 0 := by omega
  simp only [hd, decide_true, if_true, hv', decide_false]
  simp
  omega
structure Bfs (A : Nat → Nat → Prop) (S : Nat → Prop) (n : Nat) (d : List Int) (q : List Nat) (i : Nat) (cur : Nat → Prop) : Prop where
  len : d.length = n
  num : q.length + left d = n
  lt : ∀ a, a < q.length → q.getD a 0 < n ∧ 0 ≤ d.getD (q.getD a 0) 0
  all : ∀ p, p < n → 0 ≤ d.getD p 0 → ∃ a, a < q.length ∧ q.getD a 0 = p
  neg : ∀ p, p < n → d.getD p 0 < 0 → d.getD p 0 = -1
  good : ∀ p, p < n → 0 ≤ d.getD p 0 → IsDist A S p (d.getD p 0)
  start : ∀ p, p < n → S p → 0 ≤ d.getD p 0
  sorted : ∀ a b, a ≤ b → b < q.length → d.getD (q.getD a 0) 0 ≤ d.getD (q.getD b 0) 0
  near : i < q.length → ∀ b, b < q.length → d.getD (q.getD b 0) 0 ≤ d.getD (q.getD i 0) 0 + 1
  proc : ∀ a, a < i → a < q.length → ∀ r, r < n → A (q.getD a 0) r → 0 ≤ d.getD r 0
  cur : i < q.length → ∀ r, r < n → A (q.getD i 0) r → cur r → 0 ≤ d.getD r 0
  bnd : ∀ a, a < q.length → d.getD (q.getD a 0) 0 ≤ (a : Int)
theorem getD_app {q : List Nat} {r a : Nat} : (q ++ [r]).getD a 0 = if a < q.length then q.getD a 0 else if a = q.length then r else 0 := by
  rw [List.getD_eq_getElem?_getD, List.getElem?_append]
  by_cases h : a < q.length
  · rw [if_pos h, if_pos h, List.getD_eq_getElem?_getD]
  · rw [if_neg h, if_neg h]
    by_cases h2 : a = q.length
    · subst h2; simp
    · rw [if_neg h2, List.getElem?_eq_none (by simp; omega)]; rfl
section
variable {A : Nat → Nat → Prop} {S : Nat → Prop} {n : Nat} {d : List Int} {q : List Nat} {i : Nat} {cur : Nat → Prop}
theorem Bfs.told (h : Bfs A S n d q i cur) (hA : ∀ p r, p < n → A p r → r < n) (hS : ∀ p, S p → p < n) (hi : i < q.length) : ∀ k u, Walk A S k u → (k : Int) ≤ d.getD (q.getD i 0) 0 → u < n ∧ 0 ≤ d.getD u 0
  | 0, u, hw, _ => ⟨hS u hw, h.start u (hS u hw) hw⟩
  | k + 1, u, ⟨v, hw, ha⟩, hk => by
    obtain ⟨h1, h2⟩ := h.told hA hS hi k v hw (by omega)
    obtain ⟨a, ha1, ha2⟩ := h.all v h1 h2
    have hu := hA v u h1 ha
    refine ⟨hu, ?_⟩
    have hle := (h.good v h1 h2).2.2 k hw
    have hai : a < i := by
      rcases Nat.lt_or_ge a i with hai | hai
      · exact hai
      · have := h.sorted i a hai ha1
        rw [ha2] at this
        omega
    exact h.proc a hai ha1 u hu (by rw [ha2]; exact ha)
theorem Bfs.push (h : Bfs A S n d q i cur) (hA : ∀ p r, p < n → A p r → r < n) (hS : ∀ p, S p → p < n) (hi : i < q.length) {r : Nat} (hr : r < n) (ha : A (q.getD i 0) r) (hn : d.getD r 0 < 0) :
    Bfs A S n (d.set r (d.getD (q.getD i 0) 0 + 1)) (q ++ [r]) i cur := by
  obtain ⟨hp, hd⟩ := h.lt i hi
  have hlen := h.len
  have hne : ∀ a, a < q.length → q.getD a 0 ≠ r := fun a ha he => by
    have := (h.lt a ha).2
    rw [he] at this
    omega
  have hset : ∀ j, (d.set r (d.getD (q.getD i 0) 0 + 1)).getD j 0 = if r = j then d.getD (q.getD i 0) 0 + 1 else d.getD j 0 := fun j => by
    rw [getD_set]
    by_cases hrj : r = j
    · rw [if_pos ⟨hrj, by omega⟩, if_pos hrj]
    · rw [if_neg (fun hh => hrj hh.1), if_neg hrj]
  have hq : ∀ a, a < q.length → (d.set r (d.getD (q.getD i 0) 0 + 1)).getD ((q ++ [r]).getD a 0) 0 = d.getD (q.getD a 0) 0 := fun a ha => by
    rw [getD_app, if_pos ha, hset, if_neg (fun he => hne a ha he.symm)]
  have hql : (d.set r (d.getD (q.getD i 0) 0 + 1)).getD ((q ++ [r]).getD q.length 0) 0 = d.getD (q.getD i 0) 0 + 1 := by
    rw [getD_app, if_neg (Nat.lt_irrefl _), if_pos rfl, hset, if_pos rfl]
  have hpos : ∀ j, 0 ≤ d.getD j 0 → 0 ≤ (d.set r (d.getD (q.getD i 0) 0 + 1)).getD j 0 := fun j hj => by
    rw [hset]; split <;> omega
  refine ⟨by rw [List.length_set]; exact hlen, ?_, ?_, ?_, ?_, ?_, ?_, ?_, ?_, ?_, ?_, ?_⟩
  · have := left_set (v := d.getD (q.getD i 0) 0 + 1) (by omega : r < d.length) hn (by omega)
    have := h.num
    rw [List.length_append, List.length_singleton]
    omega
  · intro a hal
    rw [List.length_append, List.length_singleton] at hal
    by_cases hal' : a < q.length
    · rw [hq a hal', getD_app, if_pos hal']
      exact h.lt a hal'
    · have : a = q.length := by omega
      subst this
      rw [hql, getD_app, if_neg (Nat.lt_irrefl _), if_pos rfl]
      exact ⟨hr, by omega⟩
  · intro p hpn hpd
    by_cases hrp : r = p
    · exact ⟨q.length, by simp, by rw [getD_app, if_neg (Nat.lt_irrefl _), if_pos rfl]; exact hrp⟩
    · rw [hset, if_neg hrp] at hpd
      obtain ⟨a, h1, h2⟩ := h.all p hpn hpd
      exact ⟨a, by simp; omega, by rw [getD_app, if_pos h1]; exact h2⟩
  · intro p hpn hpd
    rw [hset] at hpd ⊢
    split
    · rename_i hrp; rw [if_pos hrp] at hpd; omega
    · rename_i hrp; rw [if_neg hrp] at hpd; exact h.neg p hpn hpd
  · intro p hpn hpd
    rw [hset] at hpd ⊢
    by_cases hrp : r = p
    · subst hrp
      rw [if_pos rfl]
      obtain ⟨g0, g1, g2⟩ := h.good _ hp hd
      refine ⟨by omega, ?_, fun k hk => ?_⟩
      · have e : (d.getD (q.getD i 0) 0 + 1).toNat = (d.getD (q.getD i 0) 0).toNat + 1 := by omega
        rw [e]; exact ⟨_, g1, ha⟩
      · rcases Int.lt_or_le (k : Int) (d.getD (q.getD i 0) 0 + 1) with hlt | hge
        · have := (h.told hA hS hi k r hk (by omega)).2
          omega
        · exact hge
    · rw [if_neg hrp] at hpd ⊢
      exact h.good p hpn hpd
  · intro p hpn hs
    exact hpos p (h.start p hpn hs)
  · intro a b hab hb
    rw [List.length_append, List.length_singleton] at hb
    by_cases hb' : b < q.length
    · rw [hq a (by omega), hq b hb']
      exact h.sorted a b hab hb'
    · have : b = q.length := by omega
      subst this
      rw [hql]
      by_cases ha' : a < q.length
      · rw [hq a ha']
        exact h.near hi a ha'
      · have : a = q.length := by omega
        subst this
        rw [hql]; omega
  · intro _ b hb
    rw [hq i hi]
    rw [List.length_append, List.length_singleton] at hb
    by_cases hb' : b < q.length
    · rw [hq b hb']
      exact h.near hi b hb'
    · have : b = q.length := by omega
      subst this
      rw [hql]; omega
  · intro a hai _ s hs has
    rw [getD_app, if_pos (by omega : a < q.length)] at has
    exact hpos s (h.proc a hai (by omega) s hs has)
  · intro _ s hs has hc
    rw [getD_app, if_pos hi] at has
    exact hpos s (h.cur hi s hs has hc)
  · intro a hal
    rw [List.length_append, List.length_singleton] at hal
    by_cases hal' : a < q.length
    · rw [hq a hal']; exact h.bnd a hal'
    · have : a = q.length := by omega
      subst this
      rw [hql]
      have := h.bnd i hi
      omega
theorem Bfs.see (h : Bfs A S n d q i cur) {cur' : Nat → Prop} (hc : ∀ r, r < n → i < q.length → A (q.getD i 0) r → cur' r → cur r ∨ 0 ≤ d.getD r 0) : Bfs A S n d q i cur' :=
  ⟨h.len, h.num, h.lt, h.all, h.neg, h.good, h.start, h.sorted, h.near, h.proc, fun hi r hr ha hcr => (hc r hr hi ha hcr).elim (h.cur hi r hr ha) id, h.bnd⟩
theorem Bfs.next (h : Bfs A S n d q i cur) (hc : i < q.length → ∀ r, r < n → A (q.getD i 0) r → cur r) : Bfs A S n d q (i + 1) fun _ => False := by
  refine ⟨h.len, h.num, h.lt, h.all, h.neg, h.good, h.start, h.sorted, fun hi b hb => ?_, fun a ha hal r hr har => ?_, fun _ _ _ _ hf => hf.elim, h.bnd⟩
  · have := h.near (by omega) b hb
    have := h.sorted i (i + 1) (by omega) hi
    omega
  · by_cases hai : a = i
    · subst hai
      exact h.cur hal r hr har (hc hal r hr har)
    · exact h.proc a (by omega) hal r hr har
theorem Bfs.fin (h : Bfs A S n d q i cur) (hA : ∀ p r, p < n → A p r → r < n) (hS : ∀ p, S p → p < n) (hi : q.length ≤ i) : d = farL A S n := by
  have key : ∀ k u, Walk A S k u → u < n ∧ 0 ≤ d.getD u 0 := by
    intro k
    induction k with
    | zero => exact fun u hw => ⟨hS u hw, h.start u (hS u hw) hw⟩
    | succ k ih =>
      rintro u ⟨v, hw, ha⟩
      obtain ⟨h1, h2⟩ := ih v hw
      obtain ⟨a, h3, h4⟩ := h.all v h1 h2
      have hu := hA v u h1 ha
      exact ⟨hu, h.proc a (by omega) h3 u hu (by rw [h4]; exact ha)⟩
  refine List.ext_getElem (by rw [h.len, length_farL]) fun j h1 h2 => ?_
  have hj : j < n := by rw [h.len] at h1; exact h1
  have e1 : d[j] = d.getD j 0 := by rw [List.getD_eq_getElem?_getD, List.getElem?_eq_getElem h1]; rfl
  have e2 : (farL A S n)[j] = distI A S j := by simp [farL]
  rw [e1, e2]
  rcases Int.lt_or_le (d.getD j 0) 0 with hd | hd
  · rw [h.neg j hj hd]
    exact (dist_none fun k hk => by have := (key k j hk).2; omega).symm
  · exact (dist_of (h.good j hj hd)).symm
end
structure Ini (n : Nat) (src : List Nat) (d : List Int) (q : List Nat) (i : Nat) : Prop where
  len : d.length = n
  num : q.length + left d = n
  lt : ∀ a, a < q.length → q.getD a 0 < n ∧ d.getD (q.getD a 0) 0 = 0
  all : ∀ p, p < n → 0 ≤ d.getD p 0 → ∃ a, a < q.length ∧ q.getD a 0 = p
  neg : ∀ p, p < n → d.getD p 0 < 0 → d.getD p 0 = -1
  sub : ∀ a, a < q.length → q.getD a 0 ∈ src
  got : ∀ j, j < i → j < src.length → 0 ≤ d.getD (src.getD j 0) 0
theorem Ini.skip {n : Nat} {src : List Nat} {d : List Int} {q : List Nat} {i : Nat} (h : Ini n src d q i) (hd : i < src.length → 0 ≤ d.getD (src.getD i 0) 0) : Ini n src d q (i + 1) := by
  refine ⟨h.len, h.num, h.lt, h.all, h.neg, h.sub, fun j hj hjl => ?_⟩
  by_cases hji : j = i
  · subst hji; exact hd hjl
  · exact h.got j (by omega) hjl
theorem Ini.put {n : Nat} {src : List Nat} {d : List Int} {q : List Nat} {i p : Nat} (h : Ini n src d q i) (hi : i < src.length) (hp : src.getD i 0 = p) (hpn : p < n) (hd : d.getD p 0 < 0) : Ini n src (d.set p 0) (q ++ [p]) (i + 1) := by
  have hlen := h.len
  have hne : ∀ a, a < q.length → q.getD a 0 ≠ p := fun a ha he => by
    have := (h.lt a ha).2
    rw [he] at this
    omega
  have hset : ∀ j, (d.set p 0).getD j 0 = if p = j then 0 else d.getD j 0 := fun j => by
    rw [getD_set]
    by_cases hrj : p = j
    · rw [if_pos ⟨hrj, by omega⟩, if_pos hrj]
    · rw [if_neg (fun hh => hrj hh.1), if_neg hrj]
  refine ⟨by rw [List.length_set]; exact hlen, ?_, fun a ha => ?_, fun r hr hd' => ?_, fun r hr hd' => ?_, fun a ha => ?_, fun j hj hjl => ?_⟩
  · have := left_set (v := 0) (by omega : p < d.length) hd (by omega)
    have := h.num
    rw [List.length_append, List.length_singleton]
    omega
  · rw [List.length_append, List.length_singleton] at ha
    rw [getD_app]
    by_cases ha' : a < q.length
    · rw [if_pos ha', hset, if_neg (fun he => hne a ha' he.symm)]
      exact h.lt a ha'
    · rw [if_neg ha', if_pos (by omega), hset, if_pos rfl]
      exact ⟨hpn, rfl⟩
  · rw [hset] at hd'
    by_cases hrp : p = r
    · exact ⟨q.length, by simp, by rw [getD_app, if_neg (Nat.lt_irrefl _), if_pos rfl]; exact hrp⟩
    · rw [if_neg hrp] at hd'
      obtain ⟨a, h1, h2⟩ := h.all r hr hd'
      exact ⟨a, by simp; omega, by rw [getD_app, if_pos h1]; exact h2⟩
  · rw [hset] at hd' ⊢
    split
    · rename_i hrp; rw [if_pos hrp] at hd'; omega
    · rename_i hrp; rw [if_neg hrp] at hd'; exact h.neg r hr hd'
  · rw [List.length_append, List.length_singleton] at ha
    rw [getD_app]
    by_cases ha' : a < q.length
    · rw [if_pos ha']; exact h.sub a ha'
    · rw [if_neg ha', if_pos (by omega), ← hp, List.getD_eq_getElem?_getD, List.getElem?_eq_getElem hi]
      exact List.getElem_mem hi
  · rw [hset]
    split
    · omega
    · rename_i hne
      by_cases hji : j = i
      · rw [hji] at hne; exact absurd hp.symm hne
      · exact h.got j (by omega) hjl
abbrev Nb (N : Nat → List Nat) : Nat → Nat → Prop := fun p r => r ∈ N p
def Mut (A : Nat → Nat → Prop) (p q : Nat) : Prop := Rel1 A p q ∧ Rel1 A q p
theorem Mut.refl {A : Nat → Nat → Prop} {p : Nat} : Mut A p p := ⟨Rel1.refl, Rel1.refl⟩
theorem Mut.symm {A : Nat → Nat → Prop} {p q : Nat} (h : Mut A p q) : Mut A q p := ⟨h.2, h.1⟩
theorem Mut.trans {A : Nat → Nat → Prop} {p q r : Nat} (h : Mut A p q) (h2 : Mut A q r) : Mut A p r := ⟨h.1.trans h2.1, h2.2.trans h.2⟩
structure Dfs (N : Nat → List Nat) (n : Nat) (ord : List Nat) (seen : List Bool) (st : List (Nat × Nat)) : Prop where
  len : seen.length = n
  nod : (ord ++ st.map (·.1)).Nodup
  lt : ∀ p ∈ ord ++ st.map (·.1), p < n
  mem : ∀ p, p < n → (seen.getD p false = true ↔ p ∈ ord ++ st.map (·.1))
  gone : ∀ x ∈ st, x.2 ≤ (N x.1).length ∧ ∀ j, j < x.2 → seen.getD ((N x.1).getD j 0) false = true
  blk : ∀ p ∈ ord, ∀ r ∈ N p, seen.getD r false = true
  path : st.Pairwise fun x y => Rel1 (Nb N) y.1 x.1
  fin : ∀ p ∈ ord, (∃ x ∈ st, Mut (Nb N) p x.1) ∨ (∃ a ∈ ord, ord.idxOf p < ord.idxOf a ∧ Mut (Nb N) p a) ∨ ∀ v, Rel1 (Nb N) p v → v ∈ ord ∧ ord.idxOf v ≤ ord.idxOf p
theorem getD_setB {l : List Bool} {i j : Nat} {v : Bool} : (l.set i v).getD j false = if i = j ∧ i < l.length then v else l.getD j false := by
  rw [List.getD_eq_getElem?_getD, List.getElem?_set]
  by_cases h : i = j
  · subst h
    by_cases hl : i < l.length
    · simp [hl]
    · simp [hl]
  · simp [h]
section
variable {N : Nat → List Nat} {n : Nat} {ord : List Nat} {seen : List Bool} {st : List (Nat × Nat)}
theorem nodup_le {l : List Nat} {n : Nat} (hn : l.Nodup) (hl : ∀ p ∈ l, p < n) : l.length ≤ n := by
  have := List.Nodup.length_le_of_subset (l₂ := List.range n) hn (fun p hp => List.mem_range.2 (hl p hp))
  simpa using this
theorem idx_lt_of {l : List Nat} {a : Nat} (h : a ∈ l) : l.idxOf a < l.length := List.idxOf_lt_length_iff.2 h
theorem Dfs.pass {x : Nat} {k : Nat} (h : Dfs N n ord seen ((x, k) :: st)) (hk : k < (N x).length) (hs : seen.getD ((N x).getD k 0) false = true) : Dfs N n ord seen ((x, k + 1) :: st) := by
  refine ⟨h.len, h.nod, h.lt, h.mem, fun y hy => ?_, h.blk, ?_, fun p hp => ?_⟩
  · rcases List.mem_cons.1 hy with rfl | hy
    · refine ⟨hk, fun j hj => ?_⟩
      by_cases hjk : j = k
      · subst hjk; exact hs
      · exact (h.gone (x, k) (by simp)).2 j (by simp only at hj ⊢; omega)
    · exact h.gone y (by simp [hy])
  · exact List.pairwise_cons.2 ⟨(List.pairwise_cons.1 h.path).1, (List.pairwise_cons.1 h.path).2⟩
  · rcases h.fin p hp with ⟨y, hy, hm⟩ | hh
    · rcases List.mem_cons.1 hy with rfl | hy
      · exact .inl ⟨(x, k + 1), by simp, hm⟩
      · exact .inl ⟨y, by simp [hy], hm⟩
    · exact .inr hh
theorem Dfs.same (h : Dfs N n ord seen st) {st' : List (Nat × Nat)} (hm : st'.map (·.1) = st.map (·.1)) (hg : ∀ x ∈ st', x.2 ≤ (N x.1).length ∧ ∀ j, j < x.2 → seen.getD ((N x.1).getD j 0) false = true) : Dfs N n ord seen st' := by
  refine ⟨h.len, by rw [hm]; exact h.nod, by rw [hm]; exact h.lt, by rw [hm]; exact h.mem, hg, h.blk, ?_, fun p hp => ?_⟩
  · have h1 : (st.map (·.1)).Pairwise fun a b => Rel1 (Nb N) b a := List.pairwise_map.2 h.path
    rw [← hm] at h1
    exact List.pairwise_map.1 h1
  · rcases h.fin p hp with ⟨y, hy, hmu⟩ | hh
    · have : y.1 ∈ st'.map (·.1) := by rw [hm]; exact List.mem_map.2 ⟨y, hy, rfl⟩
      obtain ⟨z, hz, he⟩ := List.mem_map.1 this
      exact .inl ⟨z, hz, by rw [he]; exact hmu⟩
    · exact .inr hh
theorem Dfs.push {r : Nat} (h : Dfs N n ord seen st) (hr : r < n) (hs : seen.getD r false = false) (hp : ∀ y ∈ st, Rel1 (Nb N) y.1 r) : Dfs N n ord (seen.set r true) ((r, 0) :: st) := by
  have hnm : r ∉ ord ++ st.map (·.1) := fun hm => by rw [(h.mem r hr).2 hm] at hs; cases hs
  have hset : ∀ j, (seen.set r true).getD j false = true ↔ r = j ∨ seen.getD j false = true := fun j => by
    rw [getD_setB]
    have := h.len
    by_cases hrj : r = j
    · rw [if_pos ⟨hrj, by omega⟩]; simp [hrj]
    · rw [if_neg (fun hh => hrj hh.1)]; simp [hrj]
  have hmem : ∀ p, p ∈ ord ++ ((r, 0) :: st).map (·.1) ↔ p = r ∨ p ∈ ord ++ st.map (·.1) := fun p => by simp only [List.map_cons, List.mem_append, List.mem_cons]; grind
  refine ⟨by rw [List.length_set]; exact h.len, ?_, fun p hpm => ?_, fun p hpn => ?_, fun y hy => ?_, fun p hpo q hq => (hset q).2 (.inr (h.blk p hpo q hq)), ?_, fun p hpo => ?_⟩
  · have := List.perm_middle (a := r) (l₁ := ord) (l₂ := st.map (·.1))
    simp only [List.map_cons]
    rw [this.nodup_iff, List.nodup_cons]
    exact ⟨hnm, h.nod⟩
  · rcases (hmem p).1 hpm with rfl | hpm
    · exact hr
    · exact h.lt p hpm
  · rw [hset, hmem, h.mem p hpn, eq_comm (a := r)]
  · rcases List.mem_cons.1 hy with rfl | hy
    · exact ⟨Nat.zero_le _, fun j hj => absurd hj (Nat.not_lt_zero _)⟩
    · exact ⟨(h.gone y hy).1, fun j hj => (hset _).2 (.inr ((h.gone y hy).2 j hj))⟩
  · exact List.pairwise_cons.2 ⟨hp, h.path⟩
  · rcases h.fin p hpo with ⟨y, hy, hm⟩ | hh
    · exact .inl ⟨y, by simp [hy], hm⟩
    · exact .inr hh
theorem Dfs.down {x k r : Nat} (h : Dfs N n ord seen ((x, k) :: st)) (hk : k < (N x).length) (hr : (N x).getD k 0 = r) (hrn : r < n) (hs : seen.getD r false = false) : Dfs N n ord (seen.set r true) ((r, 0) :: (x, k + 1) :: st) := by
  have hmem : r ∈ N x := by
    rw [← hr, List.getD_eq_getElem?_getD, List.getElem?_eq_getElem hk]
    exact List.getElem_mem hk
  have h1 := h.push hrn hs (fun y hy => by
    have hyx : Rel1 (Nb N) y.1 x := by
      rcases List.mem_cons.1 hy with rfl | hy
      · exact Rel1.refl
      · exact (List.pairwise_cons.1 h.path).1 y hy
    exact .step hyx hmem)
  refine h1.same rfl fun y hy => ?_
  rcases List.mem_cons.1 hy with rfl | hy
  · exact h1.gone _ (by simp)
  rcases List.mem_cons.1 hy with rfl | hy
  · have h2 := h1.gone (x, k) (by simp)
    refine ⟨hk, fun j hj => ?_⟩
    by_cases hjk : j = k
    · subst hjk
      rw [hr, getD_setB, if_pos ⟨rfl, by rw [h.len]; exact hrn⟩]
    · exact h2.2 j (by simp only at hj ⊢; omega)
  · exact h1.gone y (by simp [hy])
end
def us (N : Nat → List Nat) : List Bool → Nat → Nat
  | [], _ => 0
  | b :: l, i => (if b = true then 0 else (N i).length + 2) + us N l (i + 1)
def ds (N : Nat → List Nat) : List (Nat × Nat) → Nat
  | [] => 0
  | x :: l => ((N x.1).length - x.2 + 1) + ds N l
structure Order (N : Nat → List Nat) (n : Nat) (ord : List Nat) : Prop where
  nod : ord.Nodup
  lt : ∀ p ∈ ord, p < n
  all : ∀ p, p < n → p ∈ ord
  fin : ∀ p ∈ ord, (∃ a ∈ ord, ord.idxOf p < ord.idxOf a ∧ Mut (Nb N) p a) ∨ ∀ v, Rel1 (Nb N) p v → v ∈ ord ∧ ord.idxOf v ≤ ord.idxOf p
theorem Dfs.order {N : Nat → List Nat} {n : Nat} {ord : List Nat} {seen : List Bool} (h : Dfs N n ord seen []) (hs : ∀ p, p < n → seen.getD p false = true) : Order N n ord := by
  refine ⟨by simpa using h.nod, fun p hp => h.lt p (by simp [hp]), fun p hp => by simpa using (h.mem p hp).1 (hs p hp), fun p hp => ?_⟩
  rcases h.fin p hp with ⟨y, hy, _⟩ | hh
  · simp at hy
  · exact hh
theorem Order.length {N : Nat → List Nat} {n : Nat} {ord : List Nat} (h : Order N n ord) : ord.length = n := by
  have h1 := nodup_le h.nod h.lt
  have h2 := List.Nodup.length_le_of_subset (l₁ := List.range n) (l₂ := ord) List.nodup_range (fun p hp => h.all p (List.mem_range.1 hp))
  simp at h2
  omega
theorem Order.last {N : Nat → List Nat} {n : Nat} {ord : List Nat} (h : Order N n ord) : ∀ (k : Nat) (p : Nat), p ∈ ord → ord.length - ord.idxOf p ≤ k → ∃ w ∈ ord, Mut (Nb N) p w ∧ ∀ v, Rel1 (Nb N) w v → v ∈ ord ∧ ord.idxOf v ≤ ord.idxOf w
  | 0, p, hp, hk => by have := idx_lt_of hp; omega
  | k + 1, p, hp, hk => by
    rcases h.fin p hp with ⟨a, ha, hlt, hm⟩ | hall
    · obtain ⟨w, h1, h2, h3⟩ := h.last k a ha (by omega)
      exact ⟨w, h1, hm.trans h2, h3⟩
    · exact ⟨p, hp, Mut.refl, hall⟩
end Go.Proofs.YthanhknkoikbfaaDoor.Pl
namespace Go.Proofs.YthanhknkoikbfaaDoor.Pl
set_option linter.unusedSimpArgs false
set_option linter.unusedVariables false
structure Rings (A : Nat → Nat → Prop) (n : Nat) (R : List Nat) (k : Nat) (out : List Int) : Prop where
  len : out.length = n
  told : ∀ p, p < n → out.getD p 0 = -1 ∨ ∃ j, j < k ∧ j < R.length ∧ out.getD p 0 = (j : Int) ∧ Mut A p (R.getD j 0)
  whole : ∀ p q, p < n → q < n → Mut A p q → 0 ≤ out.getD p 0 → out.getD q 0 = out.getD p 0
  first : ∀ j, j < k → j < R.length → 0 ≤ out.getD (R.getD j 0) 0
theorem Rings.neg {A : Nat → Nat → Prop} {n : Nat} {R : List Nat} {k : Nat} {out : List Int} (h : Rings A n R k out) {p : Nat} (hp : p < n) (hd : out.getD p 0 < 0) : out.getD p 0 = -1 := by
  rcases h.told p hp with h1 | ⟨j, _, _, h1, _⟩
  · exact h1
  · omega
structure Ring (A : Nat → Nat → Prop) (n k root : Nat) (out0 out : List Int) (st : List Nat) (c : Option Nat) (seen : Nat → Prop) : Prop where
  len : out.length = n
  old : ∀ p, p < n → out.getD p 0 = out0.getD p 0 ∨ (out0.getD p 0 < 0 ∧ out.getD p 0 = (k : Int) ∧ Rel1 A p root)
  wait : ∀ p ∈ st, p < n ∧ out.getD p 0 = (k : Int)
  root : out.getD root 0 = (k : Int)
  proc : ∀ p, p < n → out.getD p 0 = (k : Int) → out0.getD p 0 < 0 → p ∉ st → (∀ r, r < n → A r p → (c = some p → seen r) → 0 ≤ out.getD r 0)
  cur : ∀ p, c = some p → p < n ∧ out.getD p 0 = (k : Int) ∧ out0.getD p 0 < 0
section
variable {A : Nat → Nat → Prop} {n k root : Nat} {out0 out : List Int} {st : List Nat} {c : Option Nat} {seen : Nat → Prop}
theorem Ring.take {p : Nat} {l : List Nat} (h : Ring A n k root out0 out (l ++ [p]) none seen) (hp0 : ∀ q, q < n → out0.getD q 0 < (k : Int)) : Ring A n k root out0 out l (some p) fun _ => False := by
  obtain ⟨h1, h2⟩ := h.wait p (by simp)
  have h3 : out0.getD p 0 < 0 := by
    rcases h.old p h1 with h4 | ⟨h4, _⟩
    · have := hp0 p h1; omega
    · exact h4
  refine ⟨h.len, h.old, fun q hq => h.wait q (by simp [hq]), h.root, fun q hq hk hq0 hnl r hr ha hs => ?_, fun q hq => by cases hq; exact ⟨h1, h2, h3⟩⟩
  by_cases hqp : q = p
  · subst hqp; exact (hs rfl).elim
  · exact h.proc q hq hk hq0 (by simp [hnl, hqp]) r hr ha (fun e => by cases e)
theorem Ring.see (h : Ring A n k root out0 out st c seen) {seen' : Nat → Prop} (hs : ∀ p, c = some p → ∀ r, r < n → A r p → seen' r → seen r ∨ 0 ≤ out.getD r 0) : Ring A n k root out0 out st c seen' := by
  refine ⟨h.len, h.old, h.wait, h.root, fun q hq hk hq0 hns r hr ha hsr => ?_, h.cur⟩
  by_cases hc : c = some q
  · rcases hs q hc r hr ha (hsr hc) with h1 | h1
    · exact h.proc q hq hk hq0 hns r hr ha (fun _ => h1)
    · exact h1
  · exact h.proc q hq hk hq0 hns r hr ha (fun e => absurd e hc)
theorem Ring.done (h : Ring A n k root out0 out st c seen) (hs : ∀ p, c = some p → ∀ r, r < n → A r p → seen r) : Ring A n k root out0 out st none fun _ => False := by
  refine ⟨h.len, h.old, h.wait, h.root, fun q hq hk hq0 hns r hr ha _ => h.proc q hq hk hq0 hns r hr ha (fun e => hs q e r hr ha), fun q hq => by cases hq⟩
theorem Ring.push {p r : Nat} (h : Ring A n k root out0 out st (some p) seen) (hr : r < n) (ha : A r p) (hn : out.getD r 0 < 0) : Ring A n k root out0 (out.set r k) (st ++ [r]) (some p) seen := by
  obtain ⟨hp, hpk, hp0⟩ := h.cur p rfl
  have hlen := h.len
  have hset : ∀ q, (out.set r (k : Int)).getD q 0 = if r = q then (k : Int) else out.getD q 0 := fun q => by
    rw [getD_set]
    by_cases hrp : r = q
    · rw [if_pos ⟨hrp, by omega⟩, if_pos hrp]
    · rw [if_neg (fun hh => hrp hh.1), if_neg hrp]
  have hpr : Rel1 A p root := by
    rcases h.old p hp with h1 | ⟨_, _, h1⟩
    · omega
    · exact h1
  have hr0 : out0.getD r 0 < 0 := by
    rcases h.old r hr with h1 | ⟨h1, _⟩
    · omega
    · exact h1
  refine ⟨by rw [List.length_set]; exact hlen, fun q hq => ?_, fun q hq => ?_, ?_, fun q hq hk hq0 hns s hs has hss => ?_, fun q hq => ?_⟩
  · rw [hset]
    by_cases hrq : r = q
    · subst hrq
      rw [if_pos rfl]
      exact .inr ⟨hr0, rfl, .head ha hpr⟩
    · rw [if_neg hrq]; exact h.old q hq
  · rw [hset]
    rcases List.mem_append.1 hq with hq | hq
    · obtain ⟨h1, h2⟩ := h.wait q hq
      exact ⟨h1, by split; rfl; exact h2⟩
    · rw [List.mem_singleton.1 hq, if_pos rfl]
      exact ⟨hr, rfl⟩
  · rw [hset]; split; rfl; exact h.root
  · rw [hset] at hk ⊢
    by_cases hrq : r = q
    · subst hrq; exact absurd (by simp) hns
    · rw [if_neg hrq] at hk
      have := h.proc q hq hk hq0 (fun hm => hns (by simp [hm])) s hs has hss
      split <;> omega
  · cases hq
    refine ⟨hp, ?_, hp0⟩
    rw [hset]; split; rfl; exact hpk
theorem Ring.fin {N : Nat → List Nat} {ord : List Nat} (hA : A = Nb N) (hN : ∀ p, p < n → ∀ r ∈ N p, r < n) (ho : Order N n ord) (hk : k < ord.length) (hroot : root = ord.reverse.getD k 0) (h0 : Rings A n ord.reverse k out0) (hr0 : out0.getD root 0 < 0)
    (h : Ring A n k root out0 out [] none seen) : Rings A n ord.reverse (k + 1) out := by
  subst hA
  have hol := ho.length
  have hrn : root < n := by
    rw [hroot]
    refine ho.lt _ ?_
    rw [List.getD_eq_getElem?_getD, List.getElem?_eq_getElem (by simpa using hk)]
    exact List.mem_reverse.1 (List.getElem_mem _)
  have hrmem : root ∈ ord := ho.all root hrn
  -- what stands in the order at a place from behind
  have hat : ∀ p, p ∈ ord → ord.reverse.getD (ord.length - 1 - ord.idxOf p) 0 = p := fun p hp => by
    have hi := idx_lt_of hp
    rw [List.getD_eq_getElem?_getD, List.getElem?_eq_getElem (by simp; omega), List.getElem_reverse]
    simp only [Option.getD_some]
    have e : ord.length - 1 - (ord.length - 1 - ord.idxOf p) = ord.idxOf p := by omega
    simp only [e]
    exact List.getElem_idxOf hi
  have hidx : ord.idxOf root = ord.length - 1 - k := by
    have hlt : ord.length - 1 - k < ord.length := by omega
    have e : root = ord[ord.length - 1 - k] := by
      rw [hroot, List.getD_eq_getElem?_getD, List.getElem?_eq_getElem (by simpa using hk), List.getElem_reverse]
      rfl
    rw [e]
    exact ho.nod.idxOf_getElem _ hlt
  -- those that were not told and lead to the root are led to by it
  have hback : ∀ p, p < n → out0.getD p 0 < 0 → Rel1 (Nb N) p root → Mut (Nb N) p root := by
    intro p hp hp0 hpr
    obtain ⟨w, hw, hm, hall⟩ := ho.last ord.length p (ho.all p hp) (by omega)
    have hwn := ho.lt w hw
    have hw0 : out0.getD w 0 < 0 := by
      rcases Int.lt_or_le (out0.getD w 0) 0 with h1 | h1
      · exact h1
      · have := h0.whole w p hwn hp hm.symm h1; omega
    have h1 := (hall root (hm.2.trans hpr)).2
    have h2 : k ≤ ord.length - 1 - ord.idxOf w := by
      rcases Nat.lt_or_ge (ord.length - 1 - ord.idxOf w) k with h3 | h3
      · have hi := idx_lt_of hw
        have := h0.first _ h3 (by simp; omega)
        rw [hat w hw] at this
        omega
      · exact h3
    have hi := idx_lt_of hw
    have e : ord.idxOf w = ord.idxOf root := by omega
    have hwr : w = root := by
      have e1 := List.getElem_idxOf hi
      have e2 := List.getElem_idxOf (idx_lt_of hrmem)
      rw [← e1, ← e2]
      congr 1
    rw [← hwr]; exact hm
  have hring : ∀ p, p < n → (out.getD p 0 = (k : Int) ∧ out0.getD p 0 < 0) → Mut (Nb N) p root := fun p hp hh => by
    rcases h.old p hp with h1 | ⟨h1, _, h2⟩
    · omega
    · exact hback p hp h1 h2
  have h0k : ∀ p, p < n → out0.getD p 0 < (k : Int) := fun p hp => by
    rcases h0.told p hp with h1 | ⟨j, h1, _, h2, _⟩ <;> omega
  have hall : ∀ p, Rel1 (Nb N) root p → p < n := fun p hp => by
    have hp' : Rch (Nb N) (· = root) p := hp
    induction hp' with
    | base hb => subst hb; exact hrn
    | @step q p hq ha ih => exact hN q (ih hq) p ha
  have hmem : ∀ p, Mut (Nb N) p root → out.getD p 0 = (k : Int) ∧ out0.getD p 0 < 0 := by
    intro p hm
    have ht : Rch (fun x y => Nb N y x) (· = root) p := hm.1.turn
    have hrp := hm.2
    clear hm
    induction ht with
    | base hb => subst hb; exact ⟨h.root, hr0⟩
    | @step y x hy ha ih =>
      have hxy : Rel1 (Nb N) root y := hrp.trans (Rel1.one ha)
      obtain ⟨g1, g2⟩ := ih hxy
      have hxn := hall x hrp
      have hyn := hall y hxy
      have hge := h.proc y hyn g1 g2 (by simp) x hxn ha (fun e => by cases e)
      have hx0 : out0.getD x 0 < 0 := by
        rcases Int.lt_or_le (out0.getD x 0) 0 with h1 | h1
        · exact h1
        · have hyr : Rel1 (Nb N) y root := (hring y hyn ⟨g1, g2⟩).1
          have := h0.whole x root hxn hrn ⟨(Rel1.one ha).trans hyr, hrp⟩ h1
          omega
      refine ⟨?_, hx0⟩
      rcases h.old x hxn with h1 | ⟨_, h1, _⟩
      · omega
      · exact h1
  refine ⟨h.len, fun p hp => ?_, fun p q hp hq hm hpos => ?_, fun j hj hjl => ?_⟩
  · rcases h.old p hp with h1 | ⟨h1, h2, _⟩
    · rw [h1]
      rcases h0.told p hp with h2 | ⟨j, h2, h3⟩
      · exact .inl h2
      · exact .inr ⟨j, by omega, h3⟩
    · exact .inr ⟨k, by omega, by simpa using hk, h2, by rw [← hroot]; exact hring p hp ⟨h2, h1⟩⟩
  · by_cases hp0 : out0.getD p 0 < 0
    · have hpk : out.getD p 0 = (k : Int) := by
        rcases h.old p hp with h1 | ⟨_, h1, _⟩
        · omega
        · exact h1
      rw [hpk]
      exact (hmem q (hm.symm.trans (hring p hp ⟨hpk, hp0⟩))).1
    · have hq0 := h0.whole p q hp hq hm (by omega)
      have e1 : out.getD p 0 = out0.getD p 0 := by
        rcases h.old p hp with h1 | ⟨h1, _⟩
        · exact h1
        · omega
      have e2 : out.getD q 0 = out0.getD q 0 := by
        rcases h.old q hq with h1 | ⟨h1, _⟩
        · exact h1
        · omega
      rw [e1, e2, hq0]
  · by_cases hjk : j = k
    · subst hjk
      rw [← hroot, h.root]; omega
    · have h1 := h0.first j (by omega) hjl
      have hjn : ord.reverse.getD j 0 < n := by
        refine ho.lt _ ?_
        rw [List.getD_eq_getElem?_getD, List.getElem?_eq_getElem hjl]
        exact List.mem_reverse.1 (List.getElem_mem _)
      rcases h.old _ hjn with h2 | ⟨h2, _⟩
      · rw [h2]; exact h1
      · omega
end
theorem Rings.skip {A : Nat → Nat → Prop} {n : Nat} {R : List Nat} {k : Nat} {out : List Int} (h : Rings A n R k out) (hk : k < R.length → 0 ≤ out.getD (R.getD k 0) 0) : Rings A n R (k + 1) out := by
  refine ⟨h.len, fun p hp => ?_, h.whole, fun j hj hjl => ?_⟩
  · rcases h.told p hp with h2 | ⟨j, h2, h3⟩
    · exact .inl h2
    · exact .inr ⟨j, by omega, h3⟩
  · by_cases hjk : j = k
    · subst hjk; exact hk hjl
    · exact h.first j (by omega) hjl
def IsRings (A : Nat → Nat → Prop) (n : Nat) (out : List Int) : Prop :=
  out.length = n ∧ (∀ p, p < n → 0 ≤ out.getD p 0 ∧ out.getD p 0 < n) ∧ ∀ p q, p < n → q < n → (out.getD p 0 = out.getD q 0 ↔ Mut A p q)
theorem Rings.fin {N : Nat → List Nat} {n : Nat} {ord : List Nat} {out : List Int} (ho : Order N n ord) {k : Nat} (hk : ord.length ≤ k) (h : Rings (Nb N) n ord.reverse k out) : IsRings (Nb N) n out := by
  have hol := ho.length
  have hpos : ∀ p, p < n → 0 ≤ out.getD p 0 := fun p hp => by
    obtain ⟨j, hj, hjp⟩ := List.getElem_of_mem (List.mem_reverse.2 (ho.all p hp))
    have := h.first j (by simp at hj; omega) hj
    have e2 : ord.reverse.getD j 0 = p := by rw [List.getD_eq_getElem?_getD, List.getElem?_eq_getElem hj]; exact hjp
    rw [← e2]; exact this
  refine ⟨h.len, fun p hp => ⟨hpos p hp, ?_⟩, fun p q hp hq => ⟨fun he => ?_, fun hm => (h.whole p q hp hq hm (hpos p hp)).symm⟩⟩
  · have := hpos p hp
    rcases h.told p hp with h1 | ⟨j, _, h1, h2, _⟩
    · omega
    · simp at h1; omega
  · have := hpos p hp
    rcases h.told p hp with h1 | ⟨j, _, _, h2, h3⟩
    · omega
    · rcases h.told q hq with g1 | ⟨j', _, _, g2, g3⟩
      · omega
      · have : j = j' := by omega
        subst this
        exact h3.trans g3.symm
end Go.Proofs.YthanhknkoikbfaaDoor.Pl
namespace Go.Proofs.YthanhknkoikbfaaDoor.Pl
set_option linter.unusedSimpArgs false
set_option linter.unusedVariables false
def bitL (X n : Nat) : List Nat := (List.range n).filter fun i => X.testBit i
theorem mem_bitL {X n i : Nat} : i ∈ bitL X n ↔ i < n ∧ X.testBit i = true := by simp [bitL]
theorem bitL_succ {X n : Nat} : bitL X (n + 1) = bitL X n ++ if X.testBit n = true then [n] else [] := by
  unfold bitL
  rw [List.range_succ, List.filter_append]
  congr 1
  by_cases h : X.testBit n = true <;> simp [h]
theorem bitL_len {X n : Nat} : (bitL X n).length ≤ n := by
  have := List.length_filter_le (fun i => X.testBit i) (List.range n)
  simpa [bitL] using this
theorem bitL_more {X n m : Nat} (h : X < 2 ^ n) (hm : n ≤ m) : bitL X m = bitL X n := by
  induction m with
  | zero => rw [show n = 0 by omega]
  | succ m ih =>
    by_cases hn : n = m + 1
    · rw [hn]
    · rw [bitL_succ, ih (by omega), if_neg]
      · simp
      · intro hb
        have := bit_lt h hb
        omega
/-! ### how far it can be -/
end Go.Proofs.YthanhknkoikbfaaDoor.Pl
