/- A state that stands for another: objects under other numbers, objects frozen, things forgotten. -/
import Derived.Test.YtpfbkblgefddlaaAvCode
namespace Go.Proofs.Ytpfbkblgefddlaa.Av
set_option linter.unusedSimpArgs false
set_option linter.unusedVariables false
open Go

/-- what is not kept -/
def Heap.rest (h : Heap) (σ : List (Option Nat)) : Heap := fun id => if some id ∈ σ then Option.none else h id

mutual
/-- y tells no more than x -/
def covV (σ : List (Option Nat)) (h : Heap) : AV → AV → Prop
  | _, .top => True
  | x, .ref j off len => match (σ[j]? : Option (Option Nat)) with
    | some (some i) => x = .ref i off len
    | some none => x = .snil ∧ off = 0 ∧ len = 0
    | none => False
  | x, .ptr j i off => match (σ[j]? : Option (Option Nat)) with
    | some (some k) => x = .ptr k i off
    | _ => False
  | x, .agg ys => match x with
    | .agg xs => covL σ h xs ys
    | _ => False
  | x, .tup ys => match x with
    | .tup xs => covL σ h xs ys
    | _ => False
  | x, .fn f ys => match x with
    | .fn g xs => f = g ∧ covL σ h xs ys
    | _ => False
  | x, .own z rows => x = .own z rows
  | _, .tmp _ => False
  | _, .maybe _ _ => False
  | x, y => x = y ∨ x.snap (h.rest σ) = y
def covL (σ : List (Option Nat)) (h : Heap) : List AV → List AV → Prop
  | [], [] => True
  | x :: xs, y :: ys => covV σ h x y ∧ covL σ h xs ys
  | _, _ => False
end

def covOs (σ : List (Option Nat)) (h : Heap) : List (Option Nat) → List (Option AObj) → Prop
  | [], [] => True
  | none :: s, none :: os => covOs σ h s os
  | none :: s, some (.arr _ rows) :: os => rows = [] ∧ covOs σ h s os
  | none :: s, some (.nst _ rows) :: os => rows = [] ∧ covOs σ h s os
  | some i :: s, some o' :: os => (match h i, o' with
    | some (.box row), .box row' => covL σ h row row'
    | some (.arr z rows), .arr z' rows' => z = z' ∧ rows = rows'
    | some (.nst z rows), .nst z' rows' => z = z' ∧ rows = rows'
    | some (.arx z rows), .arx z' rows' => z = z' ∧ rows.length = rows'.length ∧ ∀ (i : Nat) r r', rows[i]? = some r → rows'[i]? = some r' → covL σ h r r'
    | _, _ => False) ∧ covOs σ h s os
  | _, _ => False

def nodupB : List (Option Nat) → Bool
  | [] => true
  | none :: r => nodupB r
  | some i :: r => !(r.contains (some i)) && nodupB r

/-- the new number of an object -/
def sinv : List (Option Nat) → Nat → Option Nat
  | [], _ => none
  | x :: r, i => if x = some i then some 0 else (sinv r i).map (· + 1)

theorem sinv_get : ∀ {σ : List (Option Nat)} {i j : Nat}, sinv σ i = some j → σ[j]? = some (some i)
  | [], i, j, h => by simp [sinv] at h
  | x :: r, i, j, h => by
    simp only [sinv] at h
    split at h
    · rename_i hx; cases h; simp [hx]
    · obtain ⟨k, hk, rfl⟩ := Option.map_eq_some_iff.1 h
      simpa using sinv_get hk
theorem sinv_mem : ∀ {σ : List (Option Nat)} {i : Nat}, some i ∈ σ → ∃ j, sinv σ i = some j
  | [], i, h => by cases h
  | x :: r, i, h => by
    simp only [sinv]
    split
    · exact ⟨0, rfl⟩
    · rename_i hx
      rcases List.mem_cons.1 h with h | h
      · exact absurd h.symm hx
      · obtain ⟨j, hj⟩ := sinv_mem h
        exact ⟨j + 1, by rw [hj]; rfl⟩

def covPl (σ : List (Option Nat)) (os : List (Option AObj)) (π : Pl) : Pl where
  at' j := match (σ[j]? : Option (Option Nat)) with
    | some (some i) => π i
    | some none => match os[j]? with
      | some (some (.arr z _)) => some ⟨none, z, 0⟩
      | some (some (.nst z _)) => some ⟨none, z, 0⟩
      | _ => none
    | none => none
  hid b := (π.hid b).bind fun k => (sinv σ k.1).map fun j => (j, k.2)

theorem covPl_at (σ : List (Option Nat)) (os : List (Option AObj)) (π : Pl) (j : Nat) : covPl σ os π j = match (σ[j]? : Option (Option Nat)) with
    | some (some i) => π i
    | some none => match os[j]? with
      | some (some (.arr z _)) => some ⟨none, z, 0⟩
      | some (some (.nst z _)) => some ⟨none, z, 0⟩
      | _ => none
    | none => none := rfl
theorem covPl_hid {σ : List (Option Nat)} {os : List (Option AObj)} {π : Pl} {b : Nat} {k : Nat × Nat × Nat} (h : (covPl σ os π).hid b = some k) : ∃ k0, π.hid b = some k0 ∧ sinv σ k0.1 = some k.1 ∧ k.2 = k0.2 := by
  have h : ((π.hid b).bind fun (k : Nat × Nat × Nat) => (sinv σ k.1).map fun j => (j, k.2)) = some k := h
  obtain ⟨k0, h1, h2⟩ := Option.bind_eq_some_iff.1 h
  obtain ⟨j, h3, h4⟩ := Option.map_eq_some_iff.1 h2
  subst h4
  exact ⟨k0, h1, h3, rfl⟩
theorem covPl_hid_mk {σ : List (Option Nat)} {os : List (Option AObj)} {π : Pl} {b i j c d : Nat} (h : π.hid b = some (i, c, d)) (hj : sinv σ i = some j) : (covPl σ os π).hid b = some (j, c, d) := by
  show ((π.hid b).bind fun (k : Nat × Nat × Nat) => (sinv σ k.1).map fun j => (j, k.2)) = _
  rw [h, Option.bind_some]
  dsimp only
  rw [hj]; rfl

theorem Rel.less {w : World} {own own' : Nat → Prop} {π π' : PlF} {n n' : Nat} (ho : ∀ b, own' b → own b) (hp : ∀ id p, π id = some p → (π' id = some p ∨ π' id = none) ∧ id < n) (hd : ∀ id, π id = none → id < n → π' id = none) (hn : n ≤ n') {x : AV} {v : Value} (h : Rel w own π n x v) :
    Rel w own' π' n' x v := by
  induction h with
  | top v => exact .top v
  | undef => exact .undef
  | int k n => exact .int k n
  | bool b => exact .bool b
  | str s => exact .str s
  | agg vs cs hl _ ih => exact .agg vs cs hl ih
  | tup vs cs hl _ ih => exact .tup vs cs hl ih
  | refLive id off len b cap p hpp hb h1 h2 =>
    rcases (hp id p hpp).1 with h | h
    · exact .refLive id off len b cap p h hb h1 h2
    · exact .refDead id off len _ _ h (Nat.lt_of_lt_of_le (hp id p hpp).2 hn)
  | refEnd id off o b p hpp hb =>
    rcases (hp id p hpp).1 with h | h
    · exact .refEnd id off o b p h hb
    · exact .refDead id off 0 _ _ h (Nat.lt_of_lt_of_le (hp id p hpp).2 hn)
  | refNil id a p hpp hb =>
    rcases (hp id p hpp).1 with h | h
    · exact .refNil id a p h hb
    · exact .refDead id 0 0 _ _ h (Nat.lt_of_lt_of_le (hp id p hpp).2 hn)
  | refDead id off len v cap hpp hlt => exact .refDead id off len v cap (hd id hpp hlt) (Nat.lt_of_lt_of_le hlt hn)
  | snil a => exact .snil a
  | valNil a cap => exact .valNil a cap
  | val rows g off cap s us hg hgs hc hm hs hf hu _ ih => exact .val rows g off cap s us (fun k => hg (ho _ k)) hgs hc hm hs hf hu ih
  | tmp rows g off cap s us hg hgs hc hm hs hu h1 _ ih => exact .tmp rows g off cap s us (fun k => hg (ho _ k)) hgs hc hm hs hu h1 ih
  | ptrLive id i off b p hpp hb =>
    rcases (hp id p hpp).1 with h | h
    · exact .ptrLive id i off b p h hb
    · exact .ptrDead id i off _ h (Nat.lt_of_lt_of_le (hp id p hpp).2 hn)
  | ptrDead id i off v hpp hlt => exact .ptrDead id i off v (hd id hpp hlt) (Nat.lt_of_lt_of_le hlt hn)
  | rptr row off g o us hg hgs hf hu _ ih => exact .rptr row off g o us (fun k => hg (ho _ k)) hgs hf hu ih
  | pnil => exact .pnil
  | fn f caps cs hl _ ih => exact .fn f caps cs hl ih
  | fnil => exact .fnil
  | maybe c d b h1 h2 => exact .maybe c d b h1 h2

theorem NstAt.less {w : World} {own own' : Nat → Prop} {π π' : Pl} {n n' id : Nat} (ho : ∀ b, own' b → own b) (hp : ∀ id p, π id = some p → (π' id = some p ∨ π' id = none) ∧ id < n) (hd : ∀ id, π id = none → id < n → π' id = none) (hn : n ≤ n')
    (hh : ∀ b i j, π.hid b = some (id, i, j) → π'.hid b = some (id, i, j)) {p : Place} {s : Nat} {rows : List (List AV)} (h : NstAt w own π n id p s rows) : NstAt w own' π' n' id p s rows := by
  obtain ⟨h0, h1, h2⟩ := h
  refine ⟨h0, h1, ?_⟩
  cases hb : p.blk with
  | none => simpa [hb] using h2
  | some b =>
    simp only [hb] at h2
    obtain ⟨cur, e, g1, g2, g3, g4, g5⟩ := h2
    refine ⟨cur, e, g1, g2, g3, g4, fun i j row x u a1 a2 a3 => ?_⟩
    have hc := g5 i j row x u a1 a2 a3
    by_cases hl : x.lone = true
    · exact (cellAt_lone hl).2 (((cellAt_lone hl).1 hc).less ho hp hd hn)
    · cases x <;> simp [AV.lone] at hl
      exact OwnAt.less ho (fun b hb => hh b i j hb) hc

theorem ObjAt.less {w : World} {own own' : Nat → Prop} {π π' : Pl} {n n' id : Nat} (ho : ∀ b, own' b → own b) (hp : ∀ id p, π id = some p → (π' id = some p ∨ π' id = none) ∧ id < n) (hd : ∀ id, π id = none → id < n → π' id = none) (hn : n ≤ n')
    (hh : ∀ b i j, π.hid b = some (id, i, j) → π'.hid b = some (id, i, j)) {p : Place} {o : AObj} (h : ObjAt w own π n id p o) : ObjAt w own' π' n' id p o := by
  cases o with
  | box row =>
    obtain ⟨b, cur, e, h1, h2, h3, h4⟩ := h
    exact ⟨b, cur, e, h1, h2, h3, fun j x u hx hu => (h4 j x u hx hu).less ho hp hd hn⟩
  | arr s rows => exact ArrAt.less ho h
  | nst s rows => exact ⟨NstAt.less ho hp hd hn hh h.1, h.2⟩
  | arx s rows => exact NstAt.less ho hp hd hn hh h

section
variable {P : Program} {w0 : World} {pass own0 : Nat → Prop} {π : Pl} {e : Env} {h : Heap} {n : Nat} {a : Act} {w : World} {σ : List (Option Nat)} {os : List (Option AObj)}

theorem nodup_get : ∀ (σ : List (Option Nat)), nodupB σ = true → ∀ (i j k : Nat), σ[i]? = some (some k) → σ[j]? = some (some k) → i = j
  | [], _, i, j, k, h, _ => by simp at h
  | none :: r, hn, i, j, k, h1, h2 => by
    cases i with
    | zero => simp at h1
    | succ i => cases j with
      | zero => simp at h2
      | succ j => rw [nodup_get r (by simpa [nodupB] using hn) i j k (by simpa using h1) (by simpa using h2)]
  | some m :: r, hn, i, j, k, h1, h2 => by
    simp only [nodupB, Bool.and_eq_true, Bool.not_eq_true'] at hn
    have hm : some m ∉ r := by simpa using hn.1
    cases i with
    | zero =>
      simp at h1; subst h1
      cases j with
      | zero => rfl
      | succ j => exact absurd (List.mem_of_getElem? (by simpa using h2)) hm
    | succ i => cases j with
      | zero =>
        simp at h2; subst h2
        exact absurd (List.mem_of_getElem? (by simpa using h1)) hm
      | succ j => rw [nodup_get r hn.2 i j k (by simpa using h1) (by simpa using h2)]

theorem covOs_get : ∀ (s : List (Option Nat)) (os : List (Option AObj)), covOs σ h s os → s.length = os.length ∧ ∀ (j : Nat) o', os[j]? = some (some o') → (s[j]? = some none ∧ ∃ z, o' = .arr z [] ∨ o' = .nst z []) ∨
    (∃ i, s[j]? = some (some i) ∧ match h i, o' with
      | some (.box row), .box row' => covL σ h row row'
      | some (.arr z rows), .arr z' rows' => z = z' ∧ rows = rows'
      | some (.nst z rows), .nst z' rows' => z = z' ∧ rows = rows'
      | some (.arx z rows), .arx z' rows' => z = z' ∧ rows.length = rows'.length ∧ ∀ (i : Nat) r r', rows[i]? = some r → rows'[i]? = some r' → covL σ h r r'
      | _, _ => False)
  | [], [], _ => by simp
  | none :: s, none :: os, hc => by
    simp only [covOs] at hc
    obtain ⟨h1, h2⟩ := covOs_get s os hc
    refine ⟨by simp [h1], fun j o' hj => ?_⟩
    cases j with
    | zero => simp at hj
    | succ j => simpa using h2 j o' (by simpa using hj)
  | none :: s, some (.arr z rows) :: os, hc => by
    simp only [covOs] at hc
    obtain ⟨h1, h2⟩ := covOs_get s os hc.2
    refine ⟨by simp [h1], fun j o' hj => ?_⟩
    cases j with
    | zero => simp at hj; subst hj; exact .inl ⟨rfl, z, .inl (by rw [hc.1])⟩
    | succ j => simpa using h2 j o' (by simpa using hj)
  | none :: s, some (.nst z rows) :: os, hc => by
    simp only [covOs] at hc
    obtain ⟨h1, h2⟩ := covOs_get s os hc.2
    refine ⟨by simp [h1], fun j o' hj => ?_⟩
    cases j with
    | zero => simp at hj; subst hj; exact .inl ⟨rfl, z, .inr (by rw [hc.1])⟩
    | succ j => simpa using h2 j o' (by simpa using hj)
  | some i :: s, some o :: os, hc => by
    simp only [covOs] at hc
    obtain ⟨h1, h2⟩ := covOs_get s os hc.2
    refine ⟨by simp [h1], fun j o' hj => ?_⟩
    cases j with
    | zero => simp at hj; subst hj; exact .inr ⟨i, rfl, hc.1⟩
    | succ j => simpa using h2 j o' (by simpa using hj)
  | [], _ :: _, hc => by simp [covOs] at hc
  | none :: _, [], hc => by simp [covOs] at hc
  | some _ :: _, [], hc => by simp [covOs] at hc
  | none :: _, some (.arx _ _) :: _, hc => by simp [covOs] at hc
  | none :: _, some (.box _) :: _, hc => by simp [covOs] at hc
  | some _ :: _, none :: _, hc => by simp [covOs] at hc

theorem covOs_none : ∀ (s : List (Option Nat)) (os : List (Option AObj)), covOs σ h s os → ∀ (j : Nat), os[j]? = some none → ∀ i, s[j]? ≠ some (some i)
  | [], [], _, j, hj => by simp at hj
  | none :: s, none :: os, hc, j, hj => by
    intro i
    cases j with
    | zero => simp
    | succ j => simpa using covOs_none s os (by simpa only [covOs] using hc) j (by simpa using hj) i
  | none :: s, some (.arr z rows) :: os, hc, j, hj => by
    intro i
    simp only [covOs] at hc
    cases j with
    | zero => simp
    | succ j => simpa using covOs_none s os hc.2 j (by simpa using hj) i
  | none :: s, some (.nst z rows) :: os, hc, j, hj => by
    intro i
    simp only [covOs] at hc
    cases j with
    | zero => simp
    | succ j => simpa using covOs_none s os hc.2 j (by simpa using hj) i
  | some k :: s, some o :: os, hc, j, hj => by
    intro i
    simp only [covOs] at hc
    cases j with
    | zero => simp at hj
    | succ j => simpa using covOs_none s os hc.2 j (by simpa using hj) i
  | [], _ :: _, hc, _, _ => by simp [covOs] at hc
  | none :: _, [], hc, _, _ => by simp [covOs] at hc
  | some _ :: _, [], hc, _, _ => by simp [covOs] at hc
  | none :: _, some (.arx _ _) :: _, hc, _, _ => by simp [covOs] at hc
  | none :: _, some (.box _) :: _, hc, _, _ => by simp [covOs] at hc
  | some _ :: _, none :: _, hc, _, _ => by simp [covOs] at hc

theorem covL_get : ∀ (xs ys : List AV), covL σ h xs ys → xs.length = ys.length ∧ ∀ (i : Nat) x y, xs[i]? = some x → ys[i]? = some y → covV σ h x y
  | [], [], _ => by simp
  | x :: xs, y :: ys, hc => by
    simp only [covL] at hc
    obtain ⟨h1, h2⟩ := covL_get xs ys hc.2
    refine ⟨by simp [h1], fun i x' y' hx hy => ?_⟩
    cases i with
    | zero => simp at hx hy; subst hx; subst hy; exact hc.1
    | succ i => exact h2 i x' y' (by simpa using hx) (by simpa using hy)
  | [], _ :: _, hc => by simp [covL] at hc
  | _ :: _, [], hc => by simp [covL] at hc

/-- one state stands for another: the objects -/
structure CovS (σ : List (Option Nat)) (h : Heap) (os : List (Option AObj)) : Prop where
  nd : nodupB σ = true
  obs : covOs σ h σ os

theorem covPl_some (hc : CovS σ h os) {j : Nat} {p : Place} (hp : covPl σ os π j = some p) : (∃ i, σ[j]? = some (some i) ∧ π i = some p) ∨ (σ[j]? = some none ∧ ∃ z, (os[j]? = some (some (.arr z [])) ∨ os[j]? = some (some (.nst z []))) ∧ p = ⟨none, z, 0⟩) := by
  rw [covPl_at] at hp
  split at hp
  · rename_i i hi; exact .inl ⟨i, hi, hp⟩
  · rename_i hi
    split at hp
    · rename_i z rows ho
      cases hp
      obtain ⟨_, h2⟩ := covOs_get _ _ hc.obs
      rcases h2 j _ ho with ⟨_, z', hz | hz⟩ | ⟨i, h3, _⟩
      · cases hz; exact .inr ⟨hi, z, .inl ho, rfl⟩
      · cases hz
      · rw [hi] at h3; cases h3
    · rename_i z rows ho
      cases hp
      obtain ⟨_, h2⟩ := covOs_get _ _ hc.obs
      rcases h2 j _ ho with ⟨_, z', hz | hz⟩ | ⟨i, h3, _⟩
      · cases hz
      · cases hz; exact .inr ⟨hi, z, .inr ho, rfl⟩
      · rw [hi] at h3; cases h3
    · cases hp
  · cases hp

theorem covPl_own (hc : CovS σ h os) {b : Nat} (hb : ownOf own0 (covPl σ os π) b) : ownOf own0 π b := by
  rcases hb with (hb | hb) | ⟨j, p, h1, h2⟩
  · exact .inl (.inl hb)
  · obtain ⟨k, hk⟩ := Option.isSome_iff_exists.1 hb
    obtain ⟨k0, hk0, _⟩ := covPl_hid hk
    exact .inl (.inr (by rw [hk0]; rfl))
  · rcases covPl_some hc h1 with ⟨i, _, h3⟩ | ⟨_, z, _, rfl⟩
    · exact .inr ⟨i, p, h3, h2⟩
    · cases h2

def restPl (σ : List (Option Nat)) (π : Pl) : Pl where
  at' id := if some id ∈ σ then none else π id
  hid b := match π.hid b with
    | some k => if some k.1 ∈ σ then none else some k
    | none => none
theorem restPl_at (σ : List (Option Nat)) (π : Pl) (id : Nat) : restPl σ π id = if some id ∈ σ then none else π id := rfl
theorem restPl_hid {σ : List (Option Nat)} {π : Pl} {b : Nat} {k : Nat × Nat × Nat} (h : (restPl σ π).hid b = some k) : π.hid b = some k ∧ some k.1 ∉ σ := by
  have h : (match π.hid b with | some k => if some k.1 ∈ σ then none else some k | none => none) = some k := h
  split at h
  · rename_i k' hk'
    split at h
    · cases h
    · rename_i hn; cases h; exact ⟨hk', hn⟩
  · cases h
theorem restPl_hid_mk {σ : List (Option Nat)} {π : Pl} {b : Nat} {k : Nat × Nat × Nat} (h : π.hid b = some k) (hn : some k.1 ∉ σ) : (restPl σ π).hid b = some k := by
  show (match π.hid b with | some k => if some k.1 ∈ σ then none else some k | none => none) = some k
  rw [h]
  dsimp only
  rw [if_neg hn]

theorem rest_own (hc : CovS σ h os) : ∀ b, ownOf (ownOf own0 (covPl σ os π)) (restPl σ π) b → ownOf own0 π b := by
  rintro b ((hb | hb) | ⟨id, p, h1, h2⟩)
  · exact covPl_own hc hb
  · obtain ⟨k, hk⟩ := Option.isSome_iff_exists.1 hb
    exact .inl (.inr (by rw [(restPl_hid hk).1]; rfl))
  · rw [restPl_at] at h1
    split at h1
    · cases h1
    · exact .inr ⟨id, p, h1, h2⟩

theorem hs_rest (s : HSim own0 π h n w) (hc : CovS σ h os) : HSim (ownOf own0 (covPl σ os π)) (restPl σ π) (h.rest σ) n w := by
  have ho := rest_own (own0 := own0) (π := π) hc
  refine ⟨fun id hid => ?_, fun id o hid => ?_, fun id id' p p' b h1 h2 => ?_, fun id p b h1 h2 => ?_, fun b hb => ?_, fun b k hb => ?_⟩
  · simp only [Heap.rest] at hid; rw [restPl_at]
    split
    · rfl
    · rename_i hni; rw [if_neg hni] at hid; exact s.dom id hid
  · simp only [Heap.rest] at hid
    split at hid
    · cases hid
    · rename_i hni
      obtain ⟨g1, p, g2, g3⟩ := s.obj id o hid
      refine ⟨g1, p, by rw [restPl_at, if_neg hni]; exact g2, g3.less ho (fun id' p' hp' => ?_) (fun id' hp' _ => ?_) (Nat.le_refl _) (fun b i j hb => restPl_hid_mk hb hni)⟩
      · rw [restPl_at]
        refine ⟨?_, (s.lt hp').1⟩
        split
        · exact .inr rfl
        · exact .inl hp'
      · rw [restPl_at]; split
        · rfl
        · exact hp'
  · rw [restPl_at] at h1 h2
    split at h1
    · cases h1
    · split at h2
      · cases h2
      · exact s.inj id id' p p' b h1 h2
  · rw [restPl_at] at h1
    split at h1
    · cases h1
    · rename_i hni
      rintro ((hb | hb) | ⟨j, p', h3, h4⟩)
      · exact s.sep id p b h1 h2 hb
      · obtain ⟨k, hk⟩ := Option.isSome_iff_exists.1 hb
        obtain ⟨k0, hk0, _⟩ := covPl_hid hk
        exact (s.hid b k0 hk0).2.2.2 id p h1 h2
      · rcases covPl_some hc h3 with ⟨i, h5, h6⟩ | ⟨_, z, _, rfl⟩
        · have := s.inj id i p p' b h1 h6 h2 h4
          subst this
          exact hni (List.mem_of_getElem? h5)
        · cases h4
  · exact own_lt s (covPl_own hc hb)
  · obtain ⟨hk, hn⟩ := restPl_hid hb
    obtain ⟨g1, g2, g3, g4⟩ := s.hid b k hk
    refine ⟨?_, g2, g3, fun id p hp hpb => ?_⟩
    · rintro ((h1 | h1) | ⟨j, p', h3, h4⟩)
      · exact g1 h1
      · obtain ⟨k', hk'⟩ := Option.isSome_iff_exists.1 h1
        obtain ⟨k0, hk0, hs0, _⟩ := covPl_hid hk'
        rw [hk] at hk0; cases hk0
        exact hn (List.mem_of_getElem? (sinv_get hs0))
      · rcases covPl_some hc h3 with ⟨i, h5, h6⟩ | ⟨_, z, _, rfl⟩
        · exact g4 i p' h6 h4
        · cases h4
    · rw [restPl_at] at hp
      split at hp
      · cases hp
      · exact g4 id p hp hpb

theorem rel_cov_simple (s : HSim own0 π h n w) (hc : CovS σ h os) {x y : AV} {v : Value} (hr : Rel w (ownOf own0 π) π n x v) (hy : x.snap (h.rest σ) = y) : Rel w (ownOf own0 (covPl σ os π)) (covPl σ os π) os.length y v := by
  subst hy
  have s2 := hs_rest s hc
  have hr2 : Rel w (ownOf (ownOf own0 (covPl σ os π)) (restPl σ π)) (restPl σ π) n x v := by
    refine hr.less (rest_own hc) (fun id p hp => ?_) (fun id hp _ => ?_) (Nat.le_refl _)
    · rw [restPl_at]
      refine ⟨?_, (s.lt hp).1⟩
      split
      · exact .inr rfl
      · exact .inl hp
    · rw [restPl_at]; split
      · rfl
      · exact hp
  exact (rel_snap s2 hr2).ofNo (fun b hb => hb)

theorem rel_cov_same (s : HSim own0 π h n w) (hc : CovS σ h os) {x : AV} {v : Value} (hr : Rel w (ownOf own0 π) π n x v) (hf : x.freeT = true) : Rel w (ownOf own0 (covPl σ os π)) (covPl σ os π) os.length x v :=
  hr.free (fun b _ hb => ⟨rfl, fun g => hb (covPl_own hc g)⟩) (Nat.le_refl _) hf

mutual
theorem rel_cov (s : HSim own0 π h n w) (hc : CovS σ h os) : ∀ (y x : AV) (v : Value), covV σ h x y → Rel w (ownOf own0 π) π n x v → Rel w (ownOf own0 (covPl σ os π)) (covPl σ os π) os.length y v
  | .top, x, v, _, _ => .top v
  | .ref j off len, x, v, hcv, hr => by
    simp only [covV] at hcv
    obtain ⟨hl, hob⟩ := covOs_get _ _ hc.obs
    split at hcv
    · rename_i i hi
      subst hcv
      have hjl : j < os.length := by rw [← hl]; exact (List.getElem?_eq_some_iff.1 hi).1
      have hpi : covPl σ os π j = π i := by simp [covPl, hi]
      cases hr with
      | refLive _ _ _ b cap p hp hb h1 h2 => exact .refLive _ _ _ b cap p (hpi.trans hp) hb h1 h2
      | refEnd _ _ o b p hp hb => exact .refEnd _ _ o b p (hpi.trans hp) hb
      | refNil _ a p hp hb => exact .refNil _ a p (hpi.trans hp) hb
      | refDead _ _ _ _ _ hp _ => exact .refDead _ _ _ _ _ (hpi.trans hp) hjl
    · rename_i hi
      obtain ⟨rfl, rfl, rfl⟩ := hcv
      cases hr
      have hjl : j < os.length := by rw [← hl]; exact (List.getElem?_eq_some_iff.1 hi).1
      cases hoj : os[j] with
      | none => exact .refDead j 0 0 _ _ (by simp [covPl, hi, List.getElem?_eq_getElem hjl, hoj]) hjl
      | some o =>
        rcases hob j o (by rw [List.getElem?_eq_getElem hjl, hoj]) with ⟨_, z, hz | hz⟩ | ⟨i, h3, _⟩
        · exact .refNil j _ ⟨none, z, 0⟩ (by simp [covPl, hi, List.getElem?_eq_getElem hjl, hoj, hz]) rfl
        · exact .refNil j _ ⟨none, z, 0⟩ (by simp [covPl, hi, List.getElem?_eq_getElem hjl, hoj, hz]) rfl
        · rw [hi] at h3; cases h3
    · exact hcv.elim
  | .ptr j i off, x, v, hcv, hr => by
    simp only [covV] at hcv
    obtain ⟨hl, hob⟩ := covOs_get _ _ hc.obs
    split at hcv
    · rename_i k hk
      subst hcv
      have hjl : j < os.length := by rw [← hl]; exact (List.getElem?_eq_some_iff.1 hk).1
      have hpi : covPl σ os π j = π k := by simp [covPl, hk]
      cases hr with
      | ptrLive _ _ _ b p hp hb => exact .ptrLive _ _ _ b p (hpi.trans hp) hb
      | ptrDead _ _ _ _ hp _ => exact .ptrDead _ _ _ _ (hpi.trans hp) hjl
    · exact hcv.elim
  | .agg ys, x, v, hcv, hr => by
    cases x <;> simp only [covV] at hcv
    rename_i xs
    cases hr with
    | agg _ cs hl hh =>
      obtain ⟨g1, g2⟩ := rel_covs s hc ys xs cs.toList hcv (by simpa using hl) (fun i x u h1 h2 => hh i x u h1 (by simpa using h2))
      exact .agg ys cs (by simpa using g1) (fun i y u h1 h2 => g2 i y u h1 (by simpa using h2))
  | .tup ys, x, v, hcv, hr => by
    cases x <;> simp only [covV] at hcv
    rename_i xs
    cases hr with
    | tup _ cs hl hh =>
      obtain ⟨g1, g2⟩ := rel_covs s hc ys xs cs.toList hcv (by simpa using hl) (fun i x u h1 h2 => hh i x u h1 (by simpa using h2))
      exact .tup ys cs (by simpa using g1) (fun i y u h1 h2 => g2 i y u h1 (by simpa using h2))
  | .fn f ys, x, v, hcv, hr => by
    cases x <;> simp only [covV] at hcv
    obtain ⟨rfl, hcv⟩ := hcv
    rename_i xs
    cases hr with
    | fn _ _ cs hl hh =>
      obtain ⟨g1, g2⟩ := rel_covs s hc ys xs cs.toList hcv (by simpa using hl) (fun i x u h1 h2 => hh i x u h1 (by simpa using h2))
      exact .fn _ ys cs (by simpa using g1) (fun i y u h1 h2 => g2 i y u h1 (by simpa using h2))
  | .undef, x, v, hcv, hr => by
    simp only [covV] at hcv
    rcases hcv with rfl | h
    · cases hr; exact .undef
    · exact rel_cov_simple s hc hr h
  | .int k m, x, v, hcv, hr => by
    simp only [covV] at hcv
    rcases hcv with rfl | h
    · exact rel_cov_same s hc hr rfl
    · exact rel_cov_simple s hc hr h
  | .bool b, x, v, hcv, hr => by
    simp only [covV] at hcv
    rcases hcv with rfl | h
    · exact rel_cov_same s hc hr rfl
    · exact rel_cov_simple s hc hr h
  | .str b, x, v, hcv, hr => by
    simp only [covV] at hcv
    rcases hcv with rfl | h
    · exact rel_cov_same s hc hr rfl
    · exact rel_cov_simple s hc hr h
  | .snil, x, v, hcv, hr => by
    simp only [covV] at hcv
    rcases hcv with rfl | h
    · exact rel_cov_same s hc hr rfl
    · exact rel_cov_simple s hc hr h
  | .val rows, x, v, hcv, hr => by
    simp only [covV] at hcv
    rcases hcv with rfl | h
    · exact rel_cov_same s hc hr rfl
    · exact rel_cov_simple s hc hr h
  | .rptr row off, x, v, hcv, hr => by
    simp only [covV] at hcv
    rcases hcv with rfl | h
    · exact rel_cov_same s hc hr rfl
    · exact rel_cov_simple s hc hr h
  | .pnil, x, v, hcv, hr => by
    simp only [covV] at hcv
    rcases hcv with rfl | h
    · exact rel_cov_same s hc hr rfl
    · exact rel_cov_simple s hc hr h
  | .fnil, x, v, hcv, hr => by
    simp only [covV] at hcv
    rcases hcv with rfl | h
    · exact rel_cov_same s hc hr rfl
    · exact rel_cov_simple s hc hr h
  | .maybe _ _, x, v, hcv, hr => by
    simp [covV] at hcv
  | .own z rows, x, v, hcv, hr => by
    simp only [covV] at hcv
    subst hcv
    cases hr
  | .tmp rows, x, v, hcv, hr => by
    simp only [covV] at hcv
theorem rel_covs (s : HSim own0 π h n w) (hc : CovS σ h os) : ∀ (ys xs : List AV) (vs : List Value), covL σ h xs ys → vs.length = xs.length → (∀ (i : Nat) x u, xs[i]? = some x → vs[i]? = some u → Rel w (ownOf own0 π) π n x u) →
    vs.length = ys.length ∧ ∀ (i : Nat) y u, ys[i]? = some y → vs[i]? = some u → Rel w (ownOf own0 (covPl σ os π)) (covPl σ os π) os.length y u
  | [], [], vs, _, hl, _ => ⟨by simpa using hl, by simp⟩
  | y :: ys, x :: xs, [], _, hl, _ => by simp at hl
  | y :: ys, x :: xs, v :: vs, hcv, hl, hh => by
    simp only [covL] at hcv
    obtain ⟨g1, g2⟩ := rel_covs s hc ys xs vs hcv.2 (by simpa using hl) (fun i x u h1 h2 => hh (i + 1) x u (by simpa using h1) (by simpa using h2))
    refine ⟨by simp [g1], fun i y' u h1 h2 => ?_⟩
    cases i with
    | zero =>
      simp at h1 h2
      subst h1; subst h2
      exact rel_cov s hc y x v hcv.1 (hh 0 x v rfl rfl)
    | succ i => exact g2 i y' u (by simpa using h1) (by simpa using h2)
  | [], _ :: _, _, hcv, _, _ => by simp [covL] at hcv
  | _ :: _, [], _, hcv, _, _ => by simp [covL] at hcv
end

theorem nst_cov_same (s : HSim own0 π h n w) (hc : CovS σ h os) {i j : Nat} (hj : σ[j]? = some (some i)) (hinv : sinv σ i = some j) {p : Place} {z : Nat} {rows rows' : List (List AV)} (hl : rows.length = rows'.length)
    (hrow : ∀ (a : Nat) r r', rows[a]? = some r → rows'[a]? = some r' → r.length = r'.length ∧ ∀ (b : Nat) x y u, r[b]? = some x → r'[b]? = some y → CellAt w (ownOf own0 π) π n i a b x u → CellAt w (ownOf own0 (covPl σ os π)) (covPl σ os π) os.length j a b y u)
    (g : NstAt w (ownOf own0 π) π n i p z rows) : NstAt w (ownOf own0 (covPl σ os π)) (covPl σ os π) os.length j p z rows' := by
  obtain ⟨k1, k2, k3⟩ := g
  have get : ∀ (a : Nat) r', rows'[a]? = some r' → ∃ r, rows[a]? = some r := fun a r' hr => ⟨rows[a]'(by have := (List.getElem?_eq_some_iff.1 hr).1; omega), List.getElem?_eq_getElem _⟩
  refine ⟨k1, fun a r' hr => ?_, ?_⟩
  · obtain ⟨r, hr0⟩ := get a r' hr
    rw [← (hrow a r r' hr0 hr).1]; exact k2 a r hr0
  cases hb : p.blk with
  | none =>
    simp only [hb] at k3
    subst k3
    exact List.eq_nil_of_length_eq_zero (by simpa using hl.symm)
  | some b =>
    simp only [hb] at k3 ⊢
    obtain ⟨cur, e', c1, c2, c3, c4, c5⟩ := k3
    refine ⟨cur, e', c1, c2, by omega, c4, fun a b' r' y u a1 a2 a3 => ?_⟩
    obtain ⟨r, hr0⟩ := get a r' a1
    obtain ⟨m1, m2⟩ := hrow a r r' hr0 a1
    have hb' : b' < r.length := by rw [m1]; exact (List.getElem?_eq_some_iff.1 a2).1
    exact m2 b' r[b'] y u (List.getElem?_eq_getElem hb') a2 (c5 a b' r _ u hr0 (List.getElem?_eq_getElem hb') a3)

theorem cell_cov_own (hc : CovS σ h os) {i j a b z : Nat} {rs : List (List AV)} {u : Value} (hinv : sinv σ i = some j) (g : CellAt w (ownOf own0 π) π n i a b (.own z rs) u) : CellAt w (ownOf own0 (covPl σ os π)) (covPl σ os π) os.length j a b (.own z rs) u :=
  OwnAt.less (fun b hb => covPl_own hc hb) (fun b hb => covPl_hid_mk hb hinv) g

theorem hs_cov (s : HSim own0 π h n w) (hc : CovS σ h os) : HSim own0 (covPl σ os π) (objsO os) os.length w := by
  obtain ⟨hl, hob⟩ := covOs_get _ _ hc.obs
  refine ⟨fun j hj => ?_, fun j o' hj => ?_, fun j j' p p' b h1 h2 h3 h4 => ?_, fun j p b h1 h2 => ?_, s.old, fun b k hb => ?_⟩
  · cases hp : covPl σ os π j with
    | none => rfl
    | some p =>
      exfalso
      rcases covPl_some hc hp with ⟨i, h1, h2⟩ | ⟨h1, z, h2, _⟩
      · have hlt := (List.getElem?_eq_some_iff.1 h1).1
        have : os[j]? = some none := by
          rw [List.getElem?_eq_getElem (by omega)]
          simp only [objsO, List.getElem?_eq_getElem (show j < os.length by omega), Option.join_some] at hj
          rw [hj]
        exact covOs_none _ _ hc.obs j this i h1
      · rcases h2 with h2 | h2 <;> simp [objsO, h2] at hj
  · have hj' : os[j]? = some (some o') := by
      simp only [objsO, Option.join_eq_some_iff] at hj
      exact hj
    have hjl := (List.getElem?_eq_some_iff.1 hj').1
    refine ⟨hjl, ?_⟩
    rcases hob j o' hj' with ⟨h1, z, rfl | rfl⟩ | ⟨i, h1, h2⟩
    · exact ⟨⟨none, z, 0⟩, by rw [covPl_at]; simp [h1, hj'], rfl, by simp, rfl⟩
    · exact ⟨⟨none, z, 0⟩, by rw [covPl_at]; simp [h1, hj'], ⟨rfl, by simp, rfl⟩, by simp⟩
    · have hinv : sinv σ i = some j := by
        obtain ⟨j', hj2⟩ := sinv_mem (List.mem_of_getElem? h1)
        have := nodup_get σ hc.nd j' j i (sinv_get hj2) h1
        subst this; exact hj2
      cases hhi : h i with
      | none => rw [hhi] at h2; exact h2.elim
      | some o =>
        obtain ⟨g1, p, g2, g3⟩ := s.obj i o hhi
        refine ⟨p, by rw [covPl_at, h1]; exact g2, ?_⟩
        rw [hhi] at h2
        cases o with
        | box row =>
          cases o' with
          | arr => exact h2.elim
          | nst => exact h2.elim
          | arx => exact h2.elim
          | box row' =>
            obtain ⟨b, cur, e', k1, k2, k3, k4⟩ := g3
            obtain ⟨m1, m2⟩ := rel_covs (n := n) s hc row' row cur.toList h2 (by simpa using k3) (fun i x u a1 a2 => k4 i x u a1 (by simpa using a2))
            exact ⟨b, cur, e', k1, k2, by simpa using m1, fun j x u a1 a2 => m2 j x u a1 (by simpa using a2)⟩
        | arr z rows =>
          cases o' with
          | box => exact h2.elim
          | nst => exact h2.elim
          | arx => exact h2.elim
          | arr z' rows' =>
            obtain ⟨rfl, rfl⟩ := h2
            exact ArrAt.less (fun b hb => covPl_own hc hb) g3
        | nst z rows =>
          cases o' with
          | box => exact h2.elim
          | arr => exact h2.elim
          | arx => exact h2.elim
          | nst z' rows' =>
            obtain ⟨rfl, rfl⟩ := h2
            refine ⟨nst_cov_same s hc h1 hinv rfl (fun a r r' hr hr' => ?_) g3.1, g3.2⟩
            rw [hr] at hr'; cases hr'
            refine ⟨rfl, fun b x y u hx hy hcell => ?_⟩
            rw [hx] at hy; cases hy
            have hseal := g3.2 a r hr x (List.mem_of_getElem? hx)
            by_cases hlo : x.lone = true
            · refine (cellAt_lone hlo).2 (rel_cov_same s hc ((cellAt_lone hlo).1 hcell) ?_)
              cases x <;> first | (exact freeT_of_free hseal) | (simp [AV.lone] at hlo)
            · cases x <;> simp [AV.lone] at hlo
              exact cell_cov_own hc hinv hcell
        | arx z rows =>
          cases o' with
          | box => exact h2.elim
          | arr => exact h2.elim
          | nst => exact h2.elim
          | arx z' rows' =>
            obtain ⟨rfl, hll, hcells⟩ := h2
            refine nst_cov_same s hc h1 hinv hll (fun a r r' hr hr' => ?_) g3
            obtain ⟨m1, m2⟩ := covL_get r r' (hcells a r r' hr hr')
            refine ⟨m1, fun b x y u hx hy hcell => ?_⟩
            have hcv := m2 b x y hx hy
            by_cases hlo : x.lone = true
            · have hr := rel_cov s hc y x u hcv ((cellAt_lone hlo).1 hcell)
              refine (cellAt_lone ?_).2 hr
              cases y <;> first | rfl | cases hr
            · cases x <;> simp [AV.lone] at hlo
              rename_i q rs
              have hy : y = .top ∨ y = .own q rs := by
                cases y <;> simp only [covV] at hcv <;> first | (exact .inl rfl) | (exact .inr (by rw [hcv])) | skip
                all_goals first | (simp_all; done) | (rcases hcv with hcv | hcv <;> simp [AV.snap, AV.snap1] at hcv) | skip
                all_goals (split at hcv <;> simp at hcv)
              rcases hy with rfl | rfl
              · exact (cellAt_lone rfl).2 (.top u)
              · exact cell_cov_own hc hinv hcell
  · rcases covPl_some hc h1 with ⟨i, k1, k2⟩ | ⟨_, z, _, rfl⟩
    · rcases covPl_some hc h2 with ⟨i', m1, m2⟩ | ⟨_, z, _, rfl⟩
      · have := s.inj i i' p p' b k2 m2 h3 h4
        subst this
        exact nodup_get σ hc.nd j j' i k1 m1
      · cases h4
    · cases h3
  · rcases covPl_some hc h1 with ⟨i, k1, k2⟩ | ⟨_, z, _, rfl⟩
    · exact s.sep i p b k2 h2
    · cases h2
  · obtain ⟨k0, hk0, hs0, _⟩ := covPl_hid hb
    obtain ⟨g1, g2, g3, g4⟩ := s.hid b k0 hk0
    refine ⟨g1, g2, ?_, fun id p hp hpb => ?_⟩
    · rw [← hl]; exact (List.getElem?_eq_some_iff.1 (sinv_get hs0)).1
    · rcases covPl_some hc hp with ⟨i, k1, k2⟩ | ⟨_, z, _, rfl⟩
      · exact g4 i p k2 hpb
      · cases hpb

theorem fr_cov (f : Fr w0 pass π w) (hc : CovS σ h os) : Fr w0 pass (covPl σ os π) w := by
  refine ⟨f.os, f.tape, f.output, f.size, f.kept, fun j p b h1 h2 => ?_, fun b k hb => ?_⟩
  · rcases covPl_some hc h1 with ⟨i, k1, k2⟩ | ⟨_, z, _, rfl⟩
    · exact f.blk i p b k2 h2
    · cases h2
  · obtain ⟨k0, hk0, _⟩ := covPl_hid hb
    exact f.hid b k0 hk0

/-- the first k keep their numbers, or are given up -/
def ancB (σ : List (Option Nat)) (os : List (Option AObj)) (k : Nat) : Bool := decide (k ≤ σ.length) && (List.range k).all fun j => match (σ[j]? : Option (Option Nat)), os[j]? with
  | some (some i), _ => i == j
  | some none, some none => true
  | _, _ => false

theorem anc_cov {A : Anch} (hc : CovS σ h os) (hk : ancB σ os A.k = true) (hA : A.at π n) : A.at (covPl σ os π) os.length := by
  obtain ⟨hl, _⟩ := covOs_get _ _ hc.obs
  simp only [ancB, Bool.and_eq_true, decide_eq_true_eq, List.all_eq_true, List.mem_range] at hk
  refine ⟨by omega, fun id hid => ?_⟩
  have := hk.2 id hid
  split at this
  · rename_i i o hs
    simp at this; subst this
    rw [covPl_at, hs]
    exact hA.2 _ hid
  · rename_i hs ho
    exact .inr (by rw [covPl_at, hs, ho])
  · cases this

theorem St.cov {N : Nat} {A : Anch} (st : St w0 pass own0 A N e h n a w) (hc : CovS σ h os) (hk : ancB σ os A.k = true) {e' : Env} (he : ∀ t, covV σ h (e t) (e' t)) : St w0 pass own0 A N e' (objsO os) os.length a w := by
  obtain ⟨h1, h2, π, hA, s⟩ := st
  exact ⟨h1, h2, covPl σ os π, anc_cov hc hk hA, hs_cov s.hs hc, fr_cov s.fr hc, fun t => rel_cov s.hs hc (e' t) (e t) _ (he t) (s.env t)⟩

theorem Aw.cov {N k : Nat} {ic : ICode} {K : XK} (hc : CovS σ h os) (hk : ancB σ os k = true) {e' : Env} (he : ∀ t, covV σ h (e t) (e' t)) (hw : Aw P N k ic K e' (objsO os) os.length) : Aw P N k ic K e h n :=
  fun c hcc w0 pass own0 A hA a w st => hw c hcc w0 pass own0 A hA a w (st.cov hc (by rw [hA]; exact hk) he)

end
end Go.Proofs.Ytpfbkblgefddlaa.Av
