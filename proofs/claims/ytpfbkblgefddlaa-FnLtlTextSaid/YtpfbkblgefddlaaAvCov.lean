/- A state that stands for another: objects under other numbers, objects frozen, things forgotten. -/
import Derived.Test.YtpfbkblgefddlaaAvCode
namespace Go.Proofs.Ytpfbkblgefddlaa.Av
set_option linter.unusedSimpArgs false
set_option linter.unusedVariables false
open Go

/-- what is not kept -/
def Heap.rest (h : Heap) (σ : List (Option Nat)) : Heap := fun id => if some id ∈ σ then Option.none else h id

mutual
/-- y tells no more than x -/
def covV (σ : List (Option Nat)) (h : Heap) : AV → AV → Prop
  | _, .top => True
  | x, .ref j off len => match (σ[j]? : Option (Option Nat)) with
    | some (some i) => x = .ref i off len
    | some none => x = .snil ∧ off = 0 ∧ len = 0
    | none => False
  | x, .ptr j i off => match (σ[j]? : Option (Option Nat)) with
    | some (some k) => x = .ptr k i off
    | _ => False
  | x, .agg ys => match x with
    | .agg xs => covL σ h xs ys
    | _ => False
  | x, .tup ys => match x with
    | .tup xs => covL σ h xs ys
    | _ => False
  | x, .fn f ys => match x with
    | .fn g xs => f = g ∧ covL σ h xs ys
    | _ => False
  | x, y => x = y ∨ x.snap (h.rest σ) = y
def covL (σ : List (Option Nat)) (h : Heap) : List AV → List AV → Prop
  | [], [] => True
  | x :: xs, y :: ys => covV σ h x y ∧ covL σ h xs ys
  | _, _ => False
end

def covOs (σ : List (Option Nat)) (h : Heap) : List (Option Nat) → List (Option AObj) → Prop
  | [], [] => True
  | none :: s, none :: os => covOs σ h s os
  | none :: s, some (.arr _ rows) :: os => rows = [] ∧ covOs σ h s os
  | some i :: s, some o' :: os => (match h i, o' with
    | some (.box row), .box row' => covL σ h row row'
    | some (.arr z rows), .arr z' rows' => z = z' ∧ rows = rows'
    | _, _ => False) ∧ covOs σ h s os
  | _, _ => False

def nodupB : List (Option Nat) → Bool
  | [] => true
  | none :: r => nodupB r
  | some i :: r => !(r.contains (some i)) && nodupB r

def covPl (σ : List (Option Nat)) (os : List (Option AObj)) (π : Pl) : Pl := fun j => match (σ[j]? : Option (Option Nat)) with
  | some (some i) => π i
  | some none => match os[j]? with
    | some (some (.arr z _)) => some ⟨none, z, 0⟩
    | _ => none
  | none => none

theorem Rel.less {w : World} {own own' : Nat → Prop} {π π' : Pl} {n n' : Nat} (ho : ∀ b, own' b → own b) (hp : ∀ id p, π id = some p → (π' id = some p ∨ π' id = none) ∧ id < n) (hd : ∀ id, π id = none → id < n → π' id = none) (hn : n ≤ n') {x : AV} {v : Value} (h : Rel w own π n x v) :
    Rel w own' π' n' x v := by
  induction h with
  | top v => exact .top v
  | undef => exact .undef
  | int k n => exact .int k n
  | bool b => exact .bool b
  | str s => exact .str s
  | agg vs cs hl _ ih => exact .agg vs cs hl ih
  | tup vs cs hl _ ih => exact .tup vs cs hl ih
  | refLive id off len b cap p hpp hb h1 h2 =>
    rcases (hp id p hpp).1 with h | h
    · exact .refLive id off len b cap p h hb h1 h2
    · exact .refDead id off len _ _ h (Nat.lt_of_lt_of_le (hp id p hpp).2 hn)
  | refEnd id off o b p hpp hb =>
    rcases (hp id p hpp).1 with h | h
    · exact .refEnd id off o b p h hb
    · exact .refDead id off 0 _ _ h (Nat.lt_of_lt_of_le (hp id p hpp).2 hn)
  | refNil id a p hpp hb =>
    rcases (hp id p hpp).1 with h | h
    · exact .refNil id a p h hb
    · exact .refDead id 0 0 _ _ h (Nat.lt_of_lt_of_le (hp id p hpp).2 hn)
  | refDead id off len v cap hpp hlt => exact .refDead id off len v cap (hd id hpp hlt) (Nat.lt_of_lt_of_le hlt hn)
  | snil a => exact .snil a
  | valNil a cap => exact .valNil a cap
  | val rows g off cap s us hg hgs hc hm hs hf hu _ ih => exact .val rows g off cap s us (fun k => hg (ho _ k)) hgs hc hm hs hf hu ih
  | ptrLive id i off b p hpp hb =>
    rcases (hp id p hpp).1 with h | h
    · exact .ptrLive id i off b p h hb
    · exact .ptrDead id i off _ h (Nat.lt_of_lt_of_le (hp id p hpp).2 hn)
  | ptrDead id i off v hpp hlt => exact .ptrDead id i off v (hd id hpp hlt) (Nat.lt_of_lt_of_le hlt hn)
  | rptr row off g o us hg hgs hf hu _ ih => exact .rptr row off g o us (fun k => hg (ho _ k)) hgs hf hu ih
  | pnil => exact .pnil
  | fn f caps cs hl _ ih => exact .fn f caps cs hl ih
  | fnil => exact .fnil

theorem ObjAt.less {w : World} {own own' : Nat → Prop} {π π' : Pl} {n n' : Nat} (ho : ∀ b, own' b → own b) (hp : ∀ id p, π id = some p → (π' id = some p ∨ π' id = none) ∧ id < n) (hd : ∀ id, π id = none → id < n → π' id = none) (hn : n ≤ n') {p : Place} {o : AObj} (h : ObjAt w own π n p o) :
    ObjAt w own' π' n' p o := by
  cases o with
  | box row =>
    obtain ⟨b, cur, e, h1, h2, h3, h4⟩ := h
    exact ⟨b, cur, e, h1, h2, h3, fun j x u hx hu => (h4 j x u hx hu).less ho hp hd hn⟩
  | arr s rows =>
    obtain ⟨h0, h1, h2⟩ := h
    refine ⟨h0, h1, ?_⟩
    cases hb : p.blk with
    | none => simpa [hb] using h2
    | some b =>
      simp only [hb] at h2
      obtain ⟨cur, e, g1, g2, g3, g4, g5⟩ := h2
      exact ⟨cur, e, g1, g2, g3, g4, fun i j row x u a1 a2 a3 => (g5 i j row x u a1 a2 a3).less ho hp hd hn⟩

section
variable {P : Program} {w0 : World} {pass own0 : Nat → Prop} {π : Pl} {e : Env} {h : Heap} {n : Nat} {a : Act} {w : World} {σ : List (Option Nat)} {os : List (Option AObj)}

theorem nodup_get : ∀ (σ : List (Option Nat)), nodupB σ = true → ∀ (i j k : Nat), σ[i]? = some (some k) → σ[j]? = some (some k) → i = j
  | [], _, i, j, k, h, _ => by simp at h
  | none :: r, hn, i, j, k, h1, h2 => by
    cases i with
    | zero => simp at h1
    | succ i => cases j with
      | zero => simp at h2
      | succ j => rw [nodup_get r (by simpa [nodupB] using hn) i j k (by simpa using h1) (by simpa using h2)]
  | some m :: r, hn, i, j, k, h1, h2 => by
    simp only [nodupB, Bool.and_eq_true, Bool.not_eq_true'] at hn
    have hm : some m ∉ r := by simpa using hn.1
    cases i with
    | zero =>
      simp at h1; subst h1
      cases j with
      | zero => rfl
      | succ j => exact absurd (List.mem_of_getElem? (by simpa using h2)) hm
    | succ i => cases j with
      | zero =>
        simp at h2; subst h2
        exact absurd (List.mem_of_getElem? (by simpa using h1)) hm
      | succ j => rw [nodup_get r hn.2 i j k (by simpa using h1) (by simpa using h2)]

theorem covOs_get : ∀ (s : List (Option Nat)) (os : List (Option AObj)), covOs σ h s os → s.length = os.length ∧ ∀ (j : Nat) o', os[j]? = some (some o') → (s[j]? = some none ∧ ∃ z, o' = .arr z []) ∨
    (∃ i, s[j]? = some (some i) ∧ match h i, o' with
      | some (.box row), .box row' => covL σ h row row'
      | some (.arr z rows), .arr z' rows' => z = z' ∧ rows = rows'
      | _, _ => False)
  | [], [], _ => by simp
  | none :: s, none :: os, hc => by
    simp only [covOs] at hc
    obtain ⟨h1, h2⟩ := covOs_get s os hc
    refine ⟨by simp [h1], fun j o' hj => ?_⟩
    cases j with
    | zero => simp at hj
    | succ j => simpa using h2 j o' (by simpa using hj)
  | none :: s, some (.arr z rows) :: os, hc => by
    simp only [covOs] at hc
    obtain ⟨h1, h2⟩ := covOs_get s os hc.2
    refine ⟨by simp [h1], fun j o' hj => ?_⟩
    cases j with
    | zero => simp at hj; subst hj; exact .inl ⟨rfl, z, by rw [hc.1]⟩
    | succ j => simpa using h2 j o' (by simpa using hj)
  | some i :: s, some o :: os, hc => by
    simp only [covOs] at hc
    obtain ⟨h1, h2⟩ := covOs_get s os hc.2
    refine ⟨by simp [h1], fun j o' hj => ?_⟩
    cases j with
    | zero => simp at hj; subst hj; exact .inr ⟨i, rfl, hc.1⟩
    | succ j => simpa using h2 j o' (by simpa using hj)
  | [], _ :: _, hc => by simp [covOs] at hc
  | none :: _, [], hc => by simp [covOs] at hc
  | some _ :: _, [], hc => by simp [covOs] at hc
  | none :: _, some (.box _) :: _, hc => by simp [covOs] at hc
  | some _ :: _, none :: _, hc => by simp [covOs] at hc

theorem covOs_none : ∀ (s : List (Option Nat)) (os : List (Option AObj)), covOs σ h s os → ∀ (j : Nat), os[j]? = some none → ∀ i, s[j]? ≠ some (some i)
  | [], [], _, j, hj => by simp at hj
  | none :: s, none :: os, hc, j, hj => by
    intro i
    cases j with
    | zero => simp
    | succ j => simpa using covOs_none s os (by simpa only [covOs] using hc) j (by simpa using hj) i
  | none :: s, some (.arr z rows) :: os, hc, j, hj => by
    intro i
    simp only [covOs] at hc
    cases j with
    | zero => simp
    | succ j => simpa using covOs_none s os hc.2 j (by simpa using hj) i
  | some k :: s, some o :: os, hc, j, hj => by
    intro i
    simp only [covOs] at hc
    cases j with
    | zero => simp at hj
    | succ j => simpa using covOs_none s os hc.2 j (by simpa using hj) i
  | [], _ :: _, hc, _, _ => by simp [covOs] at hc
  | none :: _, [], hc, _, _ => by simp [covOs] at hc
  | some _ :: _, [], hc, _, _ => by simp [covOs] at hc
  | none :: _, some (.box _) :: _, hc, _, _ => by simp [covOs] at hc
  | some _ :: _, none :: _, hc, _, _ => by simp [covOs] at hc

theorem covL_get : ∀ (xs ys : List AV), covL σ h xs ys → xs.length = ys.length ∧ ∀ (i : Nat) x y, xs[i]? = some x → ys[i]? = some y → covV σ h x y
  | [], [], _ => by simp
  | x :: xs, y :: ys, hc => by
    simp only [covL] at hc
    obtain ⟨h1, h2⟩ := covL_get xs ys hc.2
    refine ⟨by simp [h1], fun i x' y' hx hy => ?_⟩
    cases i with
    | zero => simp at hx hy; subst hx; subst hy; exact hc.1
    | succ i => exact h2 i x' y' (by simpa using hx) (by simpa using hy)
  | [], _ :: _, hc => by simp [covL] at hc
  | _ :: _, [], hc => by simp [covL] at hc

/-- one state stands for another: the objects -/
structure CovS (σ : List (Option Nat)) (h : Heap) (os : List (Option AObj)) : Prop where
  nd : nodupB σ = true
  obs : covOs σ h σ os

theorem covPl_some (hc : CovS σ h os) {j : Nat} {p : Place} (hp : covPl σ os π j = some p) : (∃ i, σ[j]? = some (some i) ∧ π i = some p) ∨ (σ[j]? = some none ∧ ∃ z, os[j]? = some (some (.arr z [])) ∧ p = ⟨none, z, 0⟩) := by
  unfold covPl at hp
  split at hp
  · rename_i i hi; exact .inl ⟨i, hi, hp⟩
  · rename_i hi
    split at hp
    · rename_i z rows ho
      cases hp
      obtain ⟨_, h2⟩ := covOs_get _ _ hc.obs
      rcases h2 j _ ho with ⟨_, z', hz⟩ | ⟨i, h3, _⟩
      · cases hz; exact .inr ⟨hi, z, ho, rfl⟩
      · rw [hi] at h3; cases h3
    · cases hp
  · cases hp

theorem covPl_own (hc : CovS σ h os) {b : Nat} (hb : ownOf own0 (covPl σ os π) b) : ownOf own0 π b := by
  rcases hb with hb | ⟨j, p, h1, h2⟩
  · exact .inl hb
  · rcases covPl_some hc h1 with ⟨i, _, h3⟩ | ⟨_, z, _, rfl⟩
    · exact .inr ⟨i, p, h3, h2⟩
    · cases h2

def restPl (σ : List (Option Nat)) (π : Pl) : Pl := fun id => if some id ∈ σ then none else π id

theorem hs_rest (s : HSim own0 π h n w) (hc : CovS σ h os) : HSim (ownOf own0 (covPl σ os π)) (restPl σ π) (h.rest σ) n w := by
  have ho : ∀ b, ownOf (ownOf own0 (covPl σ os π)) (restPl σ π) b → ownOf own0 π b := by
    rintro b (hb | ⟨id, p, h1, h2⟩)
    · exact covPl_own hc hb
    · simp only [restPl] at h1
      split at h1
      · cases h1
      · exact .inr ⟨id, p, h1, h2⟩
  refine ⟨fun id hid => ?_, fun id o hid => ?_, fun id id' p p' b h1 h2 => ?_, fun id p b h1 h2 => ?_, fun b hb => ?_⟩
  · simp only [Heap.rest] at hid; simp only [restPl]
    split
    · rfl
    · rename_i hni; rw [if_neg hni] at hid; exact s.dom id hid
  · simp only [Heap.rest] at hid
    split at hid
    · cases hid
    · rename_i hni
      obtain ⟨g1, p, g2, g3⟩ := s.obj id o hid
      refine ⟨g1, p, by simp only [restPl]; rw [if_neg hni]; exact g2, g3.less ho (fun id' p' hp' => ?_) (fun id' hp' _ => ?_) (Nat.le_refl _)⟩
      · simp only [restPl]
        refine ⟨?_, (s.lt hp').1⟩
        split
        · exact .inr rfl
        · exact .inl hp'
      · simp only [restPl]; split
        · rfl
        · exact hp'
  · simp only [restPl] at h1 h2
    split at h1
    · cases h1
    · split at h2
      · cases h2
      · exact s.inj id id' p p' b h1 h2
  · simp only [restPl] at h1
    split at h1
    · cases h1
    · rename_i hni
      rintro (hb | ⟨j, p', h3, h4⟩)
      · exact s.sep id p b h1 h2 hb
      · rcases covPl_some hc h3 with ⟨i, h5, h6⟩ | ⟨_, z, _, rfl⟩
        · have := s.inj id i p p' b h1 h6 h2 h4
          subst this
          exact hni (List.mem_of_getElem? h5)
        · cases h4
  · rcases covPl_own hc hb with hb | ⟨id, p, h1, h2⟩
    · exact s.old b hb
    · exact s.blk_lt h1 h2

theorem rel_cov_simple (s : HSim own0 π h n w) (hc : CovS σ h os) {x y : AV} {v : Value} (hr : Rel w (ownOf own0 π) π n x v) (hy : x.snap (h.rest σ) = y) : Rel w (ownOf own0 (covPl σ os π)) (covPl σ os π) os.length y v := by
  subst hy
  have s2 := hs_rest s hc
  have hr2 : Rel w (ownOf (ownOf own0 (covPl σ os π)) (restPl σ π)) (restPl σ π) n x v := by
    refine hr.less ?_ (fun id p hp => ?_) (fun id hp _ => ?_) (Nat.le_refl _)
    · rintro b (hb | ⟨id, p, h1, h2⟩)
      · exact covPl_own hc hb
      · simp only [restPl] at h1
        split at h1
        · cases h1
        · exact .inr ⟨id, p, h1, h2⟩
    · simp only [restPl]
      refine ⟨?_, (s.lt hp).1⟩
      split
      · exact .inr rfl
      · exact .inl hp
    · simp only [restPl]; split
      · rfl
      · exact hp
  exact (rel_snap s2 hr2).ofNo (fun b hb => hb)

theorem rel_cov_same (s : HSim own0 π h n w) (hc : CovS σ h os) {x : AV} {v : Value} (hr : Rel w (ownOf own0 π) π n x v) (hf : x.freeT = true) : Rel w (ownOf own0 (covPl σ os π)) (covPl σ os π) os.length x v :=
  hr.free (fun b _ hb => ⟨rfl, fun g => hb (covPl_own hc g)⟩) (Nat.le_refl _) hf

mutual
theorem rel_cov (s : HSim own0 π h n w) (hc : CovS σ h os) : ∀ (y x : AV) (v : Value), covV σ h x y → Rel w (ownOf own0 π) π n x v → Rel w (ownOf own0 (covPl σ os π)) (covPl σ os π) os.length y v
  | .top, x, v, _, _ => .top v
  | .ref j off len, x, v, hcv, hr => by
    simp only [covV] at hcv
    obtain ⟨hl, hob⟩ := covOs_get _ _ hc.obs
    split at hcv
    · rename_i i hi
      subst hcv
      have hjl : j < os.length := by rw [← hl]; exact (List.getElem?_eq_some_iff.1 hi).1
      have hpi : covPl σ os π j = π i := by simp [covPl, hi]
      cases hr with
      | refLive _ _ _ b cap p hp hb h1 h2 => exact .refLive _ _ _ b cap p (hpi.trans hp) hb h1 h2
      | refEnd _ _ o b p hp hb => exact .refEnd _ _ o b p (hpi.trans hp) hb
      | refNil _ a p hp hb => exact .refNil _ a p (hpi.trans hp) hb
      | refDead _ _ _ _ _ hp _ => exact .refDead _ _ _ _ _ (hpi.trans hp) hjl
    · rename_i hi
      obtain ⟨rfl, rfl, rfl⟩ := hcv
      cases hr
      have hjl : j < os.length := by rw [← hl]; exact (List.getElem?_eq_some_iff.1 hi).1
      cases hoj : os[j] with
      | none => exact .refDead j 0 0 _ _ (by simp [covPl, hi, List.getElem?_eq_getElem hjl, hoj]) hjl
      | some o =>
        rcases hob j o (by rw [List.getElem?_eq_getElem hjl, hoj]) with ⟨_, z, hz⟩ | ⟨i, h3, _⟩
        · exact .refNil j _ ⟨none, z, 0⟩ (by simp [covPl, hi, List.getElem?_eq_getElem hjl, hoj, hz]) rfl
        · rw [hi] at h3; cases h3
    · exact hcv.elim
  | .ptr j i off, x, v, hcv, hr => by
    simp only [covV] at hcv
    obtain ⟨hl, hob⟩ := covOs_get _ _ hc.obs
    split at hcv
    · rename_i k hk
      subst hcv
      have hjl : j < os.length := by rw [← hl]; exact (List.getElem?_eq_some_iff.1 hk).1
      have hpi : covPl σ os π j = π k := by simp [covPl, hk]
      cases hr with
      | ptrLive _ _ _ b p hp hb => exact .ptrLive _ _ _ b p (hpi.trans hp) hb
      | ptrDead _ _ _ _ hp _ => exact .ptrDead _ _ _ _ (hpi.trans hp) hjl
    · exact hcv.elim
  | .agg ys, x, v, hcv, hr => by
    cases x <;> simp only [covV] at hcv
    rename_i xs
    cases hr with
    | agg _ cs hl hh =>
      obtain ⟨g1, g2⟩ := rel_covs s hc ys xs cs.toList hcv (by simpa using hl) (fun i x u h1 h2 => hh i x u h1 (by simpa using h2))
      exact .agg ys cs (by simpa using g1) (fun i y u h1 h2 => g2 i y u h1 (by simpa using h2))
  | .tup ys, x, v, hcv, hr => by
    cases x <;> simp only [covV] at hcv
    rename_i xs
    cases hr with
    | tup _ cs hl hh =>
      obtain ⟨g1, g2⟩ := rel_covs s hc ys xs cs.toList hcv (by simpa using hl) (fun i x u h1 h2 => hh i x u h1 (by simpa using h2))
      exact .tup ys cs (by simpa using g1) (fun i y u h1 h2 => g2 i y u h1 (by simpa using h2))
  | .fn f ys, x, v, hcv, hr => by
    cases x <;> simp only [covV] at hcv
    obtain ⟨rfl, hcv⟩ := hcv
    rename_i xs
    cases hr with
    | fn _ _ cs hl hh =>
      obtain ⟨g1, g2⟩ := rel_covs s hc ys xs cs.toList hcv (by simpa using hl) (fun i x u h1 h2 => hh i x u h1 (by simpa using h2))
      exact .fn _ ys cs (by simpa using g1) (fun i y u h1 h2 => g2 i y u h1 (by simpa using h2))
  | .undef, x, v, hcv, hr => by
    simp only [covV] at hcv
    rcases hcv with rfl | h
    · cases hr; exact .undef
    · exact rel_cov_simple s hc hr h
  | .int k m, x, v, hcv, hr => by
    simp only [covV] at hcv
    rcases hcv with rfl | h
    · exact rel_cov_same s hc hr rfl
    · exact rel_cov_simple s hc hr h
  | .bool b, x, v, hcv, hr => by
    simp only [covV] at hcv
    rcases hcv with rfl | h
    · exact rel_cov_same s hc hr rfl
    · exact rel_cov_simple s hc hr h
  | .str b, x, v, hcv, hr => by
    simp only [covV] at hcv
    rcases hcv with rfl | h
    · exact rel_cov_same s hc hr rfl
    · exact rel_cov_simple s hc hr h
  | .snil, x, v, hcv, hr => by
    simp only [covV] at hcv
    rcases hcv with rfl | h
    · exact rel_cov_same s hc hr rfl
    · exact rel_cov_simple s hc hr h
  | .val rows, x, v, hcv, hr => by
    simp only [covV] at hcv
    rcases hcv with rfl | h
    · exact rel_cov_same s hc hr rfl
    · exact rel_cov_simple s hc hr h
  | .rptr row off, x, v, hcv, hr => by
    simp only [covV] at hcv
    rcases hcv with rfl | h
    · exact rel_cov_same s hc hr rfl
    · exact rel_cov_simple s hc hr h
  | .pnil, x, v, hcv, hr => by
    simp only [covV] at hcv
    rcases hcv with rfl | h
    · exact rel_cov_same s hc hr rfl
    · exact rel_cov_simple s hc hr h
  | .fnil, x, v, hcv, hr => by
    simp only [covV] at hcv
    rcases hcv with rfl | h
    · exact rel_cov_same s hc hr rfl
    · exact rel_cov_simple s hc hr h
theorem rel_covs (s : HSim own0 π h n w) (hc : CovS σ h os) : ∀ (ys xs : List AV) (vs : List Value), covL σ h xs ys → vs.length = xs.length → (∀ (i : Nat) x u, xs[i]? = some x → vs[i]? = some u → Rel w (ownOf own0 π) π n x u) →
    vs.length = ys.length ∧ ∀ (i : Nat) y u, ys[i]? = some y → vs[i]? = some u → Rel w (ownOf own0 (covPl σ os π)) (covPl σ os π) os.length y u
  | [], [], vs, _, hl, _ => ⟨by simpa using hl, by simp⟩
  | y :: ys, x :: xs, [], _, hl, _ => by simp at hl
  | y :: ys, x :: xs, v :: vs, hcv, hl, hh => by
    simp only [covL] at hcv
    obtain ⟨g1, g2⟩ := rel_covs s hc ys xs vs hcv.2 (by simpa using hl) (fun i x u h1 h2 => hh (i + 1) x u (by simpa using h1) (by simpa using h2))
    refine ⟨by simp [g1], fun i y' u h1 h2 => ?_⟩
    cases i with
    | zero =>
      simp at h1 h2
      subst h1; subst h2
      exact rel_cov s hc y x v hcv.1 (hh 0 x v rfl rfl)
    | succ i => exact g2 i y' u (by simpa using h1) (by simpa using h2)
  | [], _ :: _, _, hcv, _, _ => by simp [covL] at hcv
  | _ :: _, [], _, hcv, _, _ => by simp [covL] at hcv
end

theorem hs_cov (s : HSim own0 π h n w) (hc : CovS σ h os) : HSim own0 (covPl σ os π) (objsO os) os.length w := by
  obtain ⟨hl, hob⟩ := covOs_get _ _ hc.obs
  refine ⟨fun j hj => ?_, fun j o' hj => ?_, fun j j' p p' b h1 h2 h3 h4 => ?_, fun j p b h1 h2 => ?_, s.old⟩
  · cases hp : covPl σ os π j with
    | none => rfl
    | some p =>
      exfalso
      rcases covPl_some hc hp with ⟨i, h1, h2⟩ | ⟨h1, z, h2, _⟩
      · have hlt := (List.getElem?_eq_some_iff.1 h1).1
        have : os[j]? = some none := by
          rw [List.getElem?_eq_getElem (by omega)]
          simp only [objsO, List.getElem?_eq_getElem (show j < os.length by omega), Option.join_some] at hj
          rw [hj]
        exact covOs_none _ _ hc.obs j this i h1
      · simp [objsO, h2] at hj
  · have hj' : os[j]? = some (some o') := by
      simp only [objsO, Option.join_eq_some_iff] at hj
      exact hj
    have hjl := (List.getElem?_eq_some_iff.1 hj').1
    refine ⟨hjl, ?_⟩
    rcases hob j o' hj' with ⟨h1, z, rfl⟩ | ⟨i, h1, h2⟩
    · exact ⟨⟨none, z, 0⟩, by simp [covPl, h1, hj'], rfl, by simp, rfl⟩
    · cases hhi : h i with
      | none => rw [hhi] at h2; exact h2.elim
      | some o =>
        obtain ⟨g1, p, g2, g3⟩ := s.obj i o hhi
        refine ⟨p, by simp [covPl, h1, g2], ?_⟩
        rw [hhi] at h2
        cases o with
        | box row =>
          cases o' with
          | arr => exact h2.elim
          | box row' =>
            obtain ⟨b, cur, e', k1, k2, k3, k4⟩ := g3
            obtain ⟨m1, m2⟩ := rel_covs (n := n) s hc row' row cur.toList h2 (by simpa using k3) (fun i x u a1 a2 => k4 i x u a1 (by simpa using a2))
            exact ⟨b, cur, e', k1, k2, by simpa using m1, fun j x u a1 a2 => m2 j x u a1 (by simpa using a2)⟩
        | arr z rows =>
          cases o' with
          | box => exact h2.elim
          | arr z' rows' =>
            obtain ⟨rfl, rfl⟩ := h2
            obtain ⟨k1, k2, k3⟩ := g3
            refine ⟨k1, k2, ?_⟩
            cases hb : p.blk with
            | none => simpa [hb] using k3
            | some b =>
              simp only [hb] at k3 ⊢
              obtain ⟨cur, e', c1, c2, c3, c4, c5⟩ := k3
              exact ⟨cur, e', c1, c2, c3, c4, fun i j row x u a1 a2 a3 => rel_cov_same s hc (c5 i j row x u a1 a2 a3) (freeT_of_free ((k2 i row a1).2 x (List.mem_of_getElem? a2)))⟩
  · rcases covPl_some hc h1 with ⟨i, k1, k2⟩ | ⟨_, z, _, rfl⟩
    · rcases covPl_some hc h2 with ⟨i', m1, m2⟩ | ⟨_, z, _, rfl⟩
      · have := s.inj i i' p p' b k2 m2 h3 h4
        subst this
        exact nodup_get σ hc.nd j j' i k1 m1
      · cases h4
    · cases h3
  · rcases covPl_some hc h1 with ⟨i, k1, k2⟩ | ⟨_, z, _, rfl⟩
    · exact s.sep i p b k2 h2
    · cases h2

theorem fr_cov (f : Fr w0 pass π w) (hc : CovS σ h os) : Fr w0 pass (covPl σ os π) w := by
  refine ⟨f.os, f.tape, f.output, f.size, f.kept, fun j p b h1 h2 => ?_⟩
  rcases covPl_some hc h1 with ⟨i, k1, k2⟩ | ⟨_, z, _, rfl⟩
  · exact f.blk i p b k2 h2
  · cases h2

/-- the first k keep their numbers, or are given up -/
def ancB (σ : List (Option Nat)) (os : List (Option AObj)) (k : Nat) : Bool := decide (k ≤ σ.length) && (List.range k).all fun j => match (σ[j]? : Option (Option Nat)), os[j]? with
  | some (some i), _ => i == j
  | some none, some none => true
  | _, _ => false

theorem anc_cov {A : Anch} (hc : CovS σ h os) (hk : ancB σ os A.k = true) (hA : A.at π n) : A.at (covPl σ os π) os.length := by
  obtain ⟨hl, _⟩ := covOs_get _ _ hc.obs
  simp only [ancB, Bool.and_eq_true, decide_eq_true_eq, List.all_eq_true, List.mem_range] at hk
  refine ⟨by omega, fun id hid => ?_⟩
  have := hk.2 id hid
  split at this
  · rename_i i o hs
    simp at this; subst this
    simp only [covPl, hs]
    exact hA.2 _ hid
  · rename_i hs ho
    exact .inr (by simp [covPl, hs, ho])
  · cases this

theorem St.cov {N : Nat} {A : Anch} (st : St w0 pass own0 A N e h n a w) (hc : CovS σ h os) (hk : ancB σ os A.k = true) {e' : Env} (he : ∀ t, covV σ h (e t) (e' t)) : St w0 pass own0 A N e' (objsO os) os.length a w := by
  obtain ⟨h1, h2, π, hA, s⟩ := st
  exact ⟨h1, h2, covPl σ os π, anc_cov hc hk hA, hs_cov s.hs hc, fr_cov s.fr hc, fun t => rel_cov s.hs hc (e' t) (e t) _ (he t) (s.env t)⟩

theorem Aw.cov {N k : Nat} {ic : ICode} {K : XK} (hc : CovS σ h os) (hk : ancB σ os k = true) {e' : Env} (he : ∀ t, covV σ h (e t) (e' t)) (hw : Aw P N k ic K e' (objsO os) os.length) : Aw P N k ic K e h n :=
  fun c hcc w0 pass own0 A hA a w st => hw c hcc w0 pass own0 A hA a w (st.cov hc (by rw [hA]; exact hk) he)

end
end Go.Proofs.Ytpfbkblgefddlaa.Av
