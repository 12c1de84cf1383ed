/- How many steps: a search in breadth tells it. No program in sight. -/
import Derived.Test.YtpfbkblgefddlaaPlBits
namespace Go.Proofs.Ytpfbkblgefddlaa.Pl
set_option linter.unusedSimpArgs false
set_option linter.unusedVariables false

/-- a way of so many steps leads there -/
def Walk (A : Nat → Nat → Prop) (S : Nat → Prop) : Nat → Nat → Prop
  | 0, p => S p
  | k + 1, p => ∃ q, Walk A S k q ∧ A q p

theorem walk_rch {A : Nat → Nat → Prop} {S : Nat → Prop} : ∀ {k p : Nat}, Walk A S k p → Rch A S p
  | 0, _, h => .base h
  | k + 1, p, ⟨q, h, ha⟩ => .step (walk_rch h) ha
theorem rch_walk {A : Nat → Nat → Prop} {S : Nat → Prop} {p : Nat} (h : Rch A S p) : ∃ k, Walk A S k p := by
  induction h with
  | base h => exact ⟨0, h⟩
  | step _ ha ih => obtain ⟨k, hk⟩ := ih; exact ⟨k + 1, _, hk, ha⟩

open Classical in
/-- the least number that is so -/
theorem least (P : Nat → Prop) (h : ∃ k, P k) : ∃ k, P k ∧ ∀ j, P j → k ≤ j := by
  obtain ⟨m, hm⟩ := h
  induction m using Nat.strongRecOn with
  | _ m ih =>
    by_cases hc : ∃ k, k < m ∧ P k
    · obtain ⟨k, h1, h2⟩ := hc; exact ih k h1 h2
    · exact ⟨m, hm, fun k hk => Nat.le_of_not_lt fun hl => hc ⟨k, hl, hk⟩⟩

open Classical in
/-- in how many steps; -1: in none -/
noncomputable def distI (A : Nat → Nat → Prop) (S : Nat → Prop) (p : Nat) : Int :=
  if h : ∃ k, Walk A S k p then ((choose (least _ h) : Nat) : Int) else -1

/-- a number tells how many steps it is -/
def IsDist (A : Nat → Nat → Prop) (S : Nat → Prop) (p : Nat) (d : Int) : Prop := 0 ≤ d ∧ Walk A S d.toNat p ∧ ∀ k, Walk A S k p → d ≤ (k : Int)

theorem dist_of {A : Nat → Nat → Prop} {S : Nat → Prop} {p : Nat} {d : Int} (h : IsDist A S p d) : distI A S p = d := by
  obtain ⟨h0, h1, h2⟩ := h
  have hex : ∃ k, Walk A S k p := ⟨_, h1⟩
  unfold distI
  rw [dif_pos hex]
  obtain ⟨g1, g2⟩ := Classical.choose_spec (least _ hex)
  have := h2 _ g1
  have := g2 _ h1
  omega
theorem dist_none {A : Nat → Nat → Prop} {S : Nat → Prop} {p : Nat} (h : ∀ k, ¬ Walk A S k p) : distI A S p = -1 := by
  unfold distI
  rw [dif_neg (fun ⟨k, hk⟩ => h k hk)]
theorem dist_cases (A : Nat → Nat → Prop) (S : Nat → Prop) (p : Nat) : (distI A S p = -1 ∧ ∀ k, ¬ Walk A S k p) ∨ IsDist A S p (distI A S p) := by
  by_cases hex : ∃ k, Walk A S k p
  · obtain ⟨k, h1, h2⟩ := least _ hex
    have hd : IsDist A S p (k : Int) := ⟨by omega, by simpa using h1, fun j hj => by have := h2 j hj; omega⟩
    exact .inr (by rw [dist_of hd]; exact hd)
  · exact .inl ⟨dist_none fun k hk => hex ⟨k, hk⟩, fun k hk => hex ⟨k, hk⟩⟩

noncomputable def farL (A : Nat → Nat → Prop) (S : Nat → Prop) (n : Nat) : List Int := (List.range n).map (distI A S)
theorem length_farL {A : Nat → Nat → Prop} {S : Nat → Prop} {n : Nat} : (farL A S n).length = n := by simp [farL]
theorem farL_at {A : Nat → Nat → Prop} {S : Nat → Prop} {n i : Nat} (h : i < n) : (farL A S n).getD i 0 = distI A S i := by simp [farL, h]

theorem getD_set {l : List Int} {i j : Nat} {v : Int} : (l.set i v).getD j 0 = if i = j ∧ i < l.length then v else l.getD j 0 := by
  rw [List.getD_eq_getElem?_getD, List.getElem?_set]
  by_cases h : i = j
  · subst h
    by_cases hl : i < l.length
    · simp [hl]
    · simp [hl]
  · simp [h]

/-- how many are not told yet -/
def left (d : List Int) : Nat := d.countP fun x => decide (x < 0)
theorem left_set {d : List Int} {r : Nat} {v : Int} (hr : r < d.length) (h : d.getD r 0 < 0) (hv : 0 ≤ v) : left (d.set r v) + 1 = left d := by
  unfold left
  rw [List.countP_set hr]
  have hd : d[r] < 0 := by rwa [List.getD_eq_getElem?_getD, List.getElem?_eq_getElem hr] at h
  have hpos : 0 < d.countP fun x => decide (x < 0) := List.countP_pos_iff.2 ⟨d[r], List.getElem_mem hr, by simpa using hd⟩
  have hv' : ¬ v < 0 := by omega
  simp only [hd, decide_true, if_true, hv', decide_false]
  simp
  omega

/-- The search: what is told (d), what waits (q), how far it is (i); cur: which ends of the i-th one's steps were seen -/
structure Bfs (A : Nat → Nat → Prop) (S : Nat → Prop) (n : Nat) (d : List Int) (q : List Nat) (i : Nat) (cur : Nat → Prop) : Prop where
  len : d.length = n
  num : q.length + left d = n
  lt : ∀ a, a < q.length → q.getD a 0 < n ∧ 0 ≤ d.getD (q.getD a 0) 0
  all : ∀ p, p < n → 0 ≤ d.getD p 0 → ∃ a, a < q.length ∧ q.getD a 0 = p
  neg : ∀ p, p < n → d.getD p 0 < 0 → d.getD p 0 = -1
  good : ∀ p, p < n → 0 ≤ d.getD p 0 → IsDist A S p (d.getD p 0)
  start : ∀ p, p < n → S p → 0 ≤ d.getD p 0
  sorted : ∀ a b, a ≤ b → b < q.length → d.getD (q.getD a 0) 0 ≤ d.getD (q.getD b 0) 0
  near : i < q.length → ∀ b, b < q.length → d.getD (q.getD b 0) 0 ≤ d.getD (q.getD i 0) 0 + 1
  proc : ∀ a, a < i → a < q.length → ∀ r, r < n → A (q.getD a 0) r → 0 ≤ d.getD r 0
  cur : i < q.length → ∀ r, r < n → A (q.getD i 0) r → cur r → 0 ≤ d.getD r 0
  bnd : ∀ a, a < q.length → d.getD (q.getD a 0) 0 ≤ (a : Int)

theorem getD_app {q : List Nat} {r a : Nat} : (q ++ [r]).getD a 0 = if a < q.length then q.getD a 0 else if a = q.length then r else 0 := by
  rw [List.getD_eq_getElem?_getD, List.getElem?_append]
  by_cases h : a < q.length
  · rw [if_pos h, if_pos h, List.getD_eq_getElem?_getD]
  · rw [if_neg h, if_neg h]
    by_cases h2 : a = q.length
    · subst h2; simp
    · rw [if_neg h2, List.getElem?_eq_none (by simp; omega)]; rfl

section
variable {A : Nat → Nat → Prop} {S : Nat → Prop} {n : Nat} {d : List Int} {q : List Nat} {i : Nat} {cur : Nat → Prop}

/-- what is nearer than the one in turn is told -/
theorem Bfs.told (h : Bfs A S n d q i cur) (hA : ∀ p r, p < n → A p r → r < n) (hS : ∀ p, S p → p < n) (hi : i < q.length) : ∀ k u, Walk A S k u → (k : Int) ≤ d.getD (q.getD i 0) 0 → u < n ∧ 0 ≤ d.getD u 0
  | 0, u, hw, _ => ⟨hS u hw, h.start u (hS u hw) hw⟩
  | k + 1, u, ⟨v, hw, ha⟩, hk => by
    obtain ⟨h1, h2⟩ := h.told hA hS hi k v hw (by omega)
    obtain ⟨a, ha1, ha2⟩ := h.all v h1 h2
    have hu := hA v u h1 ha
    refine ⟨hu, ?_⟩
    have hle := (h.good v h1 h2).2.2 k hw
    have hai : a < i := by
      rcases Nat.lt_or_ge a i with hai | hai
      · exact hai
      · have := h.sorted i a hai ha1
        rw [ha2] at this
        omega
    exact h.proc a hai ha1 u hu (by rw [ha2]; exact ha)

/-- one more is told -/
theorem Bfs.push (h : Bfs A S n d q i cur) (hA : ∀ p r, p < n → A p r → r < n) (hS : ∀ p, S p → p < n) (hi : i < q.length) {r : Nat} (hr : r < n) (ha : A (q.getD i 0) r) (hn : d.getD r 0 < 0) :
    Bfs A S n (d.set r (d.getD (q.getD i 0) 0 + 1)) (q ++ [r]) i cur := by
  obtain ⟨hp, hd⟩ := h.lt i hi
  have hlen := h.len
  have hne : ∀ a, a < q.length → q.getD a 0 ≠ r := fun a ha he => by
    have := (h.lt a ha).2
    rw [he] at this
    omega
  have hset : ∀ j, (d.set r (d.getD (q.getD i 0) 0 + 1)).getD j 0 = if r = j then d.getD (q.getD i 0) 0 + 1 else d.getD j 0 := fun j => by
    rw [getD_set]
    by_cases hrj : r = j
    · rw [if_pos ⟨hrj, by omega⟩, if_pos hrj]
    · rw [if_neg (fun hh => hrj hh.1), if_neg hrj]
  have hq : ∀ a, a < q.length → (d.set r (d.getD (q.getD i 0) 0 + 1)).getD ((q ++ [r]).getD a 0) 0 = d.getD (q.getD a 0) 0 := fun a ha => by
    rw [getD_app, if_pos ha, hset, if_neg (fun he => hne a ha he.symm)]
  have hql : (d.set r (d.getD (q.getD i 0) 0 + 1)).getD ((q ++ [r]).getD q.length 0) 0 = d.getD (q.getD i 0) 0 + 1 := by
    rw [getD_app, if_neg (Nat.lt_irrefl _), if_pos rfl, hset, if_pos rfl]
  have hpos : ∀ j, 0 ≤ d.getD j 0 → 0 ≤ (d.set r (d.getD (q.getD i 0) 0 + 1)).getD j 0 := fun j hj => by
    rw [hset]; split <;> omega
  refine ⟨by rw [List.length_set]; exact hlen, ?_, ?_, ?_, ?_, ?_, ?_, ?_, ?_, ?_, ?_, ?_⟩
  · have := left_set (v := d.getD (q.getD i 0) 0 + 1) (by omega : r < d.length) hn (by omega)
    have := h.num
    rw [List.length_append, List.length_singleton]
    omega
  · intro a hal
    rw [List.length_append, List.length_singleton] at hal
    by_cases hal' : a < q.length
    · rw [hq a hal', getD_app, if_pos hal']
      exact h.lt a hal'
    · have : a = q.length := by omega
      subst this
      rw [hql, getD_app, if_neg (Nat.lt_irrefl _), if_pos rfl]
      exact ⟨hr, by omega⟩
  · intro p hpn hpd
    by_cases hrp : r = p
    · exact ⟨q.length, by simp, by rw [getD_app, if_neg (Nat.lt_irrefl _), if_pos rfl]; exact hrp⟩
    · rw [hset, if_neg hrp] at hpd
      obtain ⟨a, h1, h2⟩ := h.all p hpn hpd
      exact ⟨a, by simp; omega, by rw [getD_app, if_pos h1]; exact h2⟩
  · intro p hpn hpd
    rw [hset] at hpd ⊢
    split
    · rename_i hrp; rw [if_pos hrp] at hpd; omega
    · rename_i hrp; rw [if_neg hrp] at hpd; exact h.neg p hpn hpd
  · intro p hpn hpd
    rw [hset] at hpd ⊢
    by_cases hrp : r = p
    · subst hrp
      rw [if_pos rfl]
      obtain ⟨g0, g1, g2⟩ := h.good _ hp hd
      refine ⟨by omega, ?_, fun k hk => ?_⟩
      · have e : (d.getD (q.getD i 0) 0 + 1).toNat = (d.getD (q.getD i 0) 0).toNat + 1 := by omega
        rw [e]; exact ⟨_, g1, ha⟩
      · rcases Int.lt_or_le (k : Int) (d.getD (q.getD i 0) 0 + 1) with hlt | hge
        · have := (h.told hA hS hi k r hk (by omega)).2
          omega
        · exact hge
    · rw [if_neg hrp] at hpd ⊢
      exact h.good p hpn hpd
  · intro p hpn hs
    exact hpos p (h.start p hpn hs)
  · intro a b hab hb
    rw [List.length_append, List.length_singleton] at hb
    by_cases hb' : b < q.length
    · rw [hq a (by omega), hq b hb']
      exact h.sorted a b hab hb'
    · have : b = q.length := by omega
      subst this
      rw [hql]
      by_cases ha' : a < q.length
      · rw [hq a ha']
        exact h.near hi a ha'
      · have : a = q.length := by omega
        subst this
        rw [hql]; omega
  · intro _ b hb
    rw [hq i hi]
    rw [List.length_append, List.length_singleton] at hb
    by_cases hb' : b < q.length
    · rw [hq b hb']
      exact h.near hi b hb'
    · have : b = q.length := by omega
      subst this
      rw [hql]; omega
  · intro a hai _ s hs has
    rw [getD_app, if_pos (by omega : a < q.length)] at has
    exact hpos s (h.proc a hai (by omega) s hs has)
  · intro _ s hs has hc
    rw [getD_app, if_pos hi] at has
    exact hpos s (h.cur hi s hs has hc)
  · intro a hal
    rw [List.length_append, List.length_singleton] at hal
    by_cases hal' : a < q.length
    · rw [hq a hal']; exact h.bnd a hal'
    · have : a = q.length := by omega
      subst this
      rw [hql]
      have := h.bnd i hi
      omega

/-- one more of the ends was seen -/
theorem Bfs.see (h : Bfs A S n d q i cur) {cur' : Nat → Prop} (hc : ∀ r, r < n → i < q.length → A (q.getD i 0) r → cur' r → cur r ∨ 0 ≤ d.getD r 0) : Bfs A S n d q i cur' :=
  ⟨h.len, h.num, h.lt, h.all, h.neg, h.good, h.start, h.sorted, h.near, h.proc, fun hi r hr ha hcr => (hc r hr hi ha hcr).elim (h.cur hi r hr ha) id, h.bnd⟩

/-- all were seen -/
theorem Bfs.next (h : Bfs A S n d q i cur) (hc : i < q.length → ∀ r, r < n → A (q.getD i 0) r → cur r) : Bfs A S n d q (i + 1) fun _ => False := by
  refine ⟨h.len, h.num, h.lt, h.all, h.neg, h.good, h.start, h.sorted, fun hi b hb => ?_, fun a ha hal r hr har => ?_, fun _ _ _ _ hf => hf.elim, h.bnd⟩
  · have := h.near (by omega) b hb
    have := h.sorted i (i + 1) (by omega) hi
    omega
  · by_cases hai : a = i
    · subst hai
      exact h.cur hal r hr har (hc hal r hr har)
    · exact h.proc a (by omega) hal r hr har

/-- at its end all is told -/
theorem Bfs.fin (h : Bfs A S n d q i cur) (hA : ∀ p r, p < n → A p r → r < n) (hS : ∀ p, S p → p < n) (hi : q.length ≤ i) : d = farL A S n := by
  have key : ∀ k u, Walk A S k u → u < n ∧ 0 ≤ d.getD u 0 := by
    intro k
    induction k with
    | zero => exact fun u hw => ⟨hS u hw, h.start u (hS u hw) hw⟩
    | succ k ih =>
      rintro u ⟨v, hw, ha⟩
      obtain ⟨h1, h2⟩ := ih v hw
      obtain ⟨a, h3, h4⟩ := h.all v h1 h2
      have hu := hA v u h1 ha
      exact ⟨hu, h.proc a (by omega) h3 u hu (by rw [h4]; exact ha)⟩
  refine List.ext_getElem (by rw [h.len, length_farL]) fun j h1 h2 => ?_
  have hj : j < n := by rw [h.len] at h1; exact h1
  have e1 : d[j] = d.getD j 0 := by rw [List.getD_eq_getElem?_getD, List.getElem?_eq_getElem h1]; rfl
  have e2 : (farL A S n)[j] = distI A S j := by simp [farL]
  rw [e1, e2]
  rcases Int.lt_or_le (d.getD j 0) 0 with hd | hd
  · rw [h.neg j hj hd]
    exact (dist_none fun k hk => by have := (key k j hk).2; omega).symm
  · exact (dist_of (h.good j hj hd)).symm

end

/-- where it begins: all of the beginning are told -/
theorem bfs_start {A : Nat → Nat → Prop} {S : Nat → Prop} {n : Nat} {d : List Int} {q : List Nat} (hlen : d.length = n) (hnum : q.length + left d = n) (hlt : ∀ a, a < q.length → q.getD a 0 < n ∧ d.getD (q.getD a 0) 0 = 0)
    (hall : ∀ p, p < n → 0 ≤ d.getD p 0 → ∃ a, a < q.length ∧ q.getD a 0 = p) (hneg : ∀ p, p < n → d.getD p 0 < 0 → d.getD p 0 = -1) (hS : ∀ a, a < q.length → S (q.getD a 0)) (hst : ∀ p, p < n → S p → 0 ≤ d.getD p 0) :
    Bfs A S n d q 0 fun _ => False := by
  have h0 : ∀ p, p < n → 0 ≤ d.getD p 0 → d.getD p 0 = 0 ∧ S p := fun p hp hd => by
    obtain ⟨a, h1, h2⟩ := hall p hp hd
    have h3 := (hlt a h1).2
    have h4 := hS a h1
    rw [h2] at h3 h4
    exact ⟨h3, h4⟩
  refine ⟨hlen, hnum, fun a ha => ⟨(hlt a ha).1, by rw [(hlt a ha).2]; omega⟩, hall, hneg, fun p hp hd => ?_, hst, fun a b hab hb => ?_, fun hi b hb => ?_, fun a ha => by omega, fun _ _ _ _ hf => hf.elim, fun a ha => by rw [(hlt a ha).2]; omega⟩
  · obtain ⟨h1, h2⟩ := h0 p hp hd
    rw [h1]
    exact ⟨by omega, h2, fun k _ => by omega⟩
  · rw [(hlt a (by omega)).2, (hlt b hb).2]; omega
  · rw [(hlt b hb).2, (hlt 0 hi).2]; omega

/-- the beginning itself, one by one -/
structure Ini (n : Nat) (src : List Nat) (d : List Int) (q : List Nat) (i : Nat) : Prop where
  len : d.length = n
  num : q.length + left d = n
  lt : ∀ a, a < q.length → q.getD a 0 < n ∧ d.getD (q.getD a 0) 0 = 0
  all : ∀ p, p < n → 0 ≤ d.getD p 0 → ∃ a, a < q.length ∧ q.getD a 0 = p
  neg : ∀ p, p < n → d.getD p 0 < 0 → d.getD p 0 = -1
  sub : ∀ a, a < q.length → q.getD a 0 ∈ src
  got : ∀ j, j < i → j < src.length → 0 ≤ d.getD (src.getD j 0) 0

theorem ini_start (n : Nat) (src : List Nat) : Ini n src (List.replicate n (-1)) [] 0 := by
  have hrep : ∀ p, p < n → (List.replicate n (-1 : Int)).getD p 0 = -1 := fun p hp => by simp [List.getD_eq_getElem?_getD, List.getElem?_replicate, hp]
  refine ⟨by simp, by simp [left, List.countP_replicate], fun a ha => by simp at ha, fun p hp h => by rw [hrep p hp] at h; omega, fun p hp _ => hrep p hp, fun a ha => by simp at ha, fun j hj => by omega⟩

theorem Ini.skip {n : Nat} {src : List Nat} {d : List Int} {q : List Nat} {i : Nat} (h : Ini n src d q i) (hd : i < src.length → 0 ≤ d.getD (src.getD i 0) 0) : Ini n src d q (i + 1) := by
  refine ⟨h.len, h.num, h.lt, h.all, h.neg, h.sub, fun j hj hjl => ?_⟩
  by_cases hji : j = i
  · subst hji; exact hd hjl
  · exact h.got j (by omega) hjl

theorem Ini.put {n : Nat} {src : List Nat} {d : List Int} {q : List Nat} {i p : Nat} (h : Ini n src d q i) (hi : i < src.length) (hp : src.getD i 0 = p) (hpn : p < n) (hd : d.getD p 0 < 0) : Ini n src (d.set p 0) (q ++ [p]) (i + 1) := by
  have hlen := h.len
  have hne : ∀ a, a < q.length → q.getD a 0 ≠ p := fun a ha he => by
    have := (h.lt a ha).2
    rw [he] at this
    omega
  have hset : ∀ j, (d.set p 0).getD j 0 = if p = j then 0 else d.getD j 0 := fun j => by
    rw [getD_set]
    by_cases hrj : p = j
    · rw [if_pos ⟨hrj, by omega⟩, if_pos hrj]
    · rw [if_neg (fun hh => hrj hh.1), if_neg hrj]
  refine ⟨by rw [List.length_set]; exact hlen, ?_, fun a ha => ?_, fun r hr hd' => ?_, fun r hr hd' => ?_, fun a ha => ?_, fun j hj hjl => ?_⟩
  · have := left_set (v := 0) (by omega : p < d.length) hd (by omega)
    have := h.num
    rw [List.length_append, List.length_singleton]
    omega
  · rw [List.length_append, List.length_singleton] at ha
    rw [getD_app]
    by_cases ha' : a < q.length
    · rw [if_pos ha', hset, if_neg (fun he => hne a ha' he.symm)]
      exact h.lt a ha'
    · rw [if_neg ha', if_pos (by omega), hset, if_pos rfl]
      exact ⟨hpn, rfl⟩
  · rw [hset] at hd'
    by_cases hrp : p = r
    · exact ⟨q.length, by simp, by rw [getD_app, if_neg (Nat.lt_irrefl _), if_pos rfl]; exact hrp⟩
    · rw [if_neg hrp] at hd'
      obtain ⟨a, h1, h2⟩ := h.all r hr hd'
      exact ⟨a, by simp; omega, by rw [getD_app, if_pos h1]; exact h2⟩
  · rw [hset] at hd' ⊢
    split
    · rename_i hrp; rw [if_pos hrp] at hd'; omega
    · rename_i hrp; rw [if_neg hrp] at hd'; exact h.neg r hr hd'
  · rw [List.length_append, List.length_singleton] at ha
    rw [getD_app]
    by_cases ha' : a < q.length
    · rw [if_pos ha']; exact h.sub a ha'
    · rw [if_neg ha', if_pos (by omega), ← hp, List.getD_eq_getElem?_getD, List.getElem?_eq_getElem hi]
      exact List.getElem_mem hi
  · rw [hset]
    split
    · omega
    · rename_i hne
      by_cases hji : j = i
      · rw [hji] at hne; exact absurd hp.symm hne
      · exact h.got j (by omega) hjl

theorem Ini.bfs {A : Nat → Nat → Prop} {n : Nat} {src : List Nat} {d : List Int} {q : List Nat} {i : Nat} (h : Ini n src d q i) (hi : src.length ≤ i) : Bfs A (· ∈ src) n d q 0 fun _ => False := by
  refine bfs_start h.len h.num h.lt h.all h.neg h.sub fun p hp hs => ?_
  obtain ⟨j, hj, rfl⟩ := List.getElem_of_mem hs
  have := h.got j (by omega) hj
  rwa [List.getD_eq_getElem?_getD (l := src), List.getElem?_eq_getElem hj] at this

end Go.Proofs.Ytpfbkblgefddlaa.Pl
