/- Formulas read from text: the reading as a function of text and place. -/
import Derived.Test.YtpfbkblgefddlaaCtPrint1
namespace Go.Proofs.Ytpfbkblgefddlaa.Ct
set_option linter.unusedSimpArgs false
set_option linter.unusedVariables false
open Go Go.Proofs Go.Proofs.Ytpfbkblgefddlaa.Av

/-- how far a reading is: the place, what is wrong, the nodes -/
structure PR where
  p : Nat
  c : Int
  l : List NodeD
  deriving Inhabited

/-- a byte stands at a place -/
def isB (s : List UInt8) (p : Nat) (b : UInt8) : Bool := decide (p < s.length) && (s.getD p 0 == b)
def PR.adv (r : PR) : PR := ⟨r.p + 1, r.c, r.l⟩
def PR.bad (s : List UInt8) (r : PR) : PR := ⟨r.p, if r.p < s.length then 3 else 2, r.l⟩
def PR.leaf (k a : Int) (r : PR) : PR := ⟨r.p + 1, r.c, r.l ++ [⟨k, a, 0⟩]⟩
def PR.one (k : Int) (r : PR) : PR := if r.c = 0 then ⟨r.p, 0, r.l ++ [⟨k, (r.l.length : Int) - 1, 0⟩]⟩ else r
def PR.two (k : Int) (f : Int) (r : PR) : PR := if r.c = 0 then ⟨r.p, 0, r.l ++ [⟨k, f, (r.l.length : Int) - 1⟩]⟩ else r
def PR.close (s : List UInt8) (r : PR) : PR := if r.c = 0 then (if isB s r.p 41 then r.adv else r.bad s) else r

/-- 0 a sum, 1 a product, 2 a term, 3 an atom, 4 the rest of a sum, 5 of a product -/
def rd (s : List UInt8) : Nat → Nat → PR → PR
  | 0, _, r => r
  | b + 1, m, r =>
    if r.c ≠ 0 then r else
    match m with
    | 0 => rd s b 4 (rd s b 1 r)
    | 1 => rd s b 5 (rd s b 2 r)
    | 2 =>
      let q := rd s b 3 r
      if q.c ≠ 0 then q
      else if isB s q.p 85 then (rd s b 2 q.adv).two 8 ((q.l.length : Int) - 1)
      else if isB s q.p 82 then (rd s b 2 q.adv).two 9 ((q.l.length : Int) - 1)
      else q
    | 3 =>
      if isB s r.p 33 then (rd s b 3 r.adv).one 4
      else if isB s r.p 88 then (rd s b 3 r.adv).one 7
      else if isB s r.p 70 then (rd s b 3 r.adv).one 10
      else if isB s r.p 71 then (rd s b 3 r.adv).one 11
      else if isB s r.p 40 then (rd s b 0 r.adv).close s
      else if isB s r.p 116 then r.leaf 1 0
      else if isB s r.p 102 then r.leaf 2 0
      else if r.p < s.length ∧ 48 ≤ (s.getD r.p 0).toNat ∧ (s.getD r.p 0).toNat < 51 then r.leaf 3 (((s.getD r.p 0).toNat : Int) - 48)
      else r.bad s
    | 4 => if isB s r.p 124 then rd s b 4 ((rd s b 1 r.adv).two 6 ((r.l.length : Int) - 1)) else r
    | _ => if isB s r.p 38 then rd s b 5 ((rd s b 2 r.adv).two 5 ((r.l.length : Int) - 1)) else r

theorem rd_err {s : List UInt8} {b m : Nat} {r : PR} (h : r.c ≠ 0) : rd s b m r = r := by
  cases b with
  | zero => rfl
  | succ b => simp only [rd]; rw [if_pos h]

theorem isB_lt {s : List UInt8} {p : Nat} {b : UInt8} (h : isB s p b = true) : p < s.length := by
  simp [isB] at h; exact h.1
theorem isB_pos {s : List UInt8} {p : Nat} {b : UInt8} (h : p < s.length) (h1 : s.getD p 0 = b) : isB s p b = true := by
  unfold isB; rw [h1]; simp [h]
theorem isB_neg {s : List UInt8} {p : Nat} {b : UInt8} (h : ¬ p < s.length ∨ s.getD p 0 ≠ b) : isB s p b = false := by
  unfold isB
  rcases h with h | h
  · simp [h]
  · rw [Bool.and_eq_false_iff]; exact .inr (by simpa using h)

/-- a reading goes on in the text, a node a byte at most -/
def PR.le (s : List UInt8) (r q : PR) : Prop := r.p ≤ q.p ∧ q.p ≤ s.length ∧ q.l.length + r.p ≤ r.l.length + q.p
theorem PR.le_refl {s : List UInt8} {r : PR} (h : r.p ≤ s.length) : r.le s r := ⟨Nat.le_refl _, h, Nat.le_refl _⟩
theorem PR.le_trans {s : List UInt8} {r q t : PR} (h1 : r.le s q) (h2 : q.le s t) : r.le s t := by
  unfold PR.le at *
  omega
theorem PR.two_le {s : List UInt8} {r q : PR} {k f : Int} (h : r.adv.le s q) : r.le s (q.two k f) := by
  unfold PR.two
  split
  · simp only [PR.le, PR.adv, List.length_append, List.length_cons, List.length_nil] at *
    omega
  · simp only [PR.le, PR.adv] at *
    omega
theorem PR.one_le {s : List UInt8} {r q : PR} {k : Int} (h : r.adv.le s q) : r.le s (q.one k) := by
  unfold PR.one
  split
  · simp only [PR.le, PR.adv, List.length_append, List.length_cons, List.length_nil] at *
    omega
  · simp only [PR.le, PR.adv] at *
    omega
theorem PR.close_le {s : List UInt8} {r q : PR} (h : r.adv.le s q) : r.le s (q.close s) := by
  unfold PR.close
  split
  · split
    · rename_i hb
      have := isB_lt hb
      simp only [PR.le, PR.adv] at *
      omega
    · simp only [PR.le, PR.adv, PR.bad] at *
      omega
  · simp only [PR.le, PR.adv] at *
    omega
theorem PR.leaf_le {s : List UInt8} {r : PR} {k a : Int} (h : r.p < s.length) : r.le s (r.leaf k a) := by
  simp only [PR.le, PR.leaf, List.length_append, List.length_cons, List.length_nil]
  omega

theorem rd_le {s : List UInt8} : ∀ (b m : Nat) (r : PR), r.p ≤ s.length → r.le s (rd s b m r)
  | 0, m, r, h => PR.le_refl h
  | b + 1, m, r, h => by
    have adv : ∀ (x : UInt8) (m' : Nat) (q : PR), isB s q.p x = true → q.adv.le s (rd s b m' q.adv) := fun x m' q hx => rd_le b m' q.adv (isB_lt hx)
    have lead : ∀ (m1 m2 : Nat), r.le s (rd s b m2 (rd s b m1 r)) := fun m1 m2 => PR.le_trans (rd_le b m1 r h) (rd_le b m2 _ (rd_le b m1 r h).2.1)
    simp only [rd]
    split
    · exact PR.le_refl h
    · split
      · exact lead 1 4
      · exact lead 2 5
      · have h3 := rd_le b 3 r h
        split
        · exact h3
        · split
          · exact PR.le_trans h3 (PR.two_le (adv 85 2 _ (by assumption)))
          · split
            · exact PR.le_trans h3 (PR.two_le (adv 82 2 _ (by assumption)))
            · exact h3
      · split
        · exact PR.one_le (adv 33 3 _ (by assumption))
        · split
          · exact PR.one_le (adv 88 3 _ (by assumption))
          · split
            · exact PR.one_le (adv 70 3 _ (by assumption))
            · split
              · exact PR.one_le (adv 71 3 _ (by assumption))
              · split
                · exact PR.close_le (adv 40 0 _ (by assumption))
                · split
                  · exact PR.leaf_le (isB_lt (b := 116) (by assumption))
                  · split
                    · exact PR.leaf_le (isB_lt (b := 102) (by assumption))
                    · split
                      · rename_i h4
                        exact PR.leaf_le h4.1
                      · simp only [PR.le, PR.bad]
                        omega
      · split
        · have h1 := PR.two_le (k := 6) (f := ((r.l.length : Int) - 1)) (adv 124 1 r (by assumption))
          exact PR.le_trans h1 (rd_le b 4 _ h1.2.1)
        · exact PR.le_refl h
      · split
        · have h1 := PR.two_le (k := 5) (f := ((r.l.length : Int) - 1)) (adv 38 2 r (by assumption))
          exact PR.le_trans h1 (rd_le b 5 _ h1.2.1)
        · exact PR.le_refl h

/-- how much is left to do -/
def rank (m : Nat) : Nat := match m with | 0 => 7 | 1 => 5 | 2 => 4 | 3 => 3 | _ => 1
def need (s : List UInt8) (m p : Nat) : Nat := 8 * (s.length - p) + rank m

/-! ### a text that was printed is read as it was -/

/-- a text stands at a place -/
def Has (s : List UInt8) (p : Nat) (t : List UInt8) : Prop := ∃ a b, s = a ++ t ++ b ∧ a.length = p
theorem Has.left {s t u : List UInt8} {p : Nat} (h : Has s p (t ++ u)) : Has s p t := by
  obtain ⟨a, b, rfl, rfl⟩ := h
  exact ⟨a, u ++ b, by simp, rfl⟩
theorem Has.right {s t u : List UInt8} {p : Nat} (h : Has s p (t ++ u)) : Has s (p + t.length) u := by
  obtain ⟨a, b, rfl, rfl⟩ := h
  exact ⟨a ++ t, b, by simp, by simp⟩
theorem Has.at {s : List UInt8} {p : Nat} {x : UInt8} (h : Has s p [x]) : p < s.length ∧ s.getD p 0 = x := by
  obtain ⟨a, b, rfl, rfl⟩ := h
  simp
theorem Has.isB {s : List UInt8} {p : Nat} {x y : UInt8} (h : Has s p [x]) : isB s p y = (x == y) := by
  obtain ⟨h1, h2⟩ := h.at
  unfold Ct.isB
  rw [h2]
  simp [h1]
theorem Has.len {s t : List UInt8} {p : Nat} (h : Has s p t) : p + t.length ≤ s.length := by
  obtain ⟨a, b, rfl, rfl⟩ := h
  simp

/-- no sign of a lower level follows -/
def noSign (s : List UInt8) (p m : Nat) : Prop := (m ≤ 2 → isB s p 85 = false ∧ isB s p 82 = false) ∧ (m ≤ 1 → isB s p 38 = false) ∧ (m ≤ 0 → isB s p 124 = false)

theorem digitB_nat {a : Int} (h0 : 0 ≤ a) (h1 : a ≤ 2) : (digitB a).toNat = 48 + a.toNat := by
  have : a = 0 ∨ a = 1 ∨ a = 2 := by omega
  rcases this with rfl | rfl | rfl <;> rfl

theorem rest_none {s : List UInt8} {b m : Nat} {r : PR} (h : (m = 4 ∧ isB s r.p 124 = false) ∨ (m = 5 ∧ isB s r.p 38 = false)) : rd s b m r = r := by
  cases b with
  | zero => rfl
  | succ b =>
    simp only [rd]
    split
    · rfl
    · rcases h with ⟨rfl, h⟩ | ⟨rfl, h⟩
      · simp [h]
      · simp [h]

/-- from an atom up to a sum -/
theorem rd_up {s : List UInt8} {r q : PR} (hc : r.c = 0) (hq : q.c = 0) {b m : Nat} (h : ∀ b', b ≤ b' + 3 → rd s b' 3 r = q) (hm : m ≤ 3) (hb : 4 ≤ b) (hn : noSign s q.p m) : rd s b m r = q := by
  have h2 : ∀ b', b ≤ b' + 2 → 1 ≤ b' → noSign s q.p 2 → rd s b' 2 r = q := by
    intro b' h1 h0 hn
    obtain ⟨c, rfl⟩ : ∃ c, b' = c + 1 := ⟨b' - 1, by omega⟩
    simp only [rd]
    rw [if_neg (by simp [hc]), h c (by omega), if_neg (by simp [hq]), if_neg (by simp [(hn.1 (by omega)).1]), if_neg (by simp [(hn.1 (by omega)).2])]
  have h1 : ∀ b', b ≤ b' + 1 → 2 ≤ b' → noSign s q.p 1 → rd s b' 1 r = q := by
    intro b' h1 h0 hn
    obtain ⟨c, rfl⟩ : ∃ c, b' = c + 1 := ⟨b' - 1, by omega⟩
    simp only [rd]
    rw [if_neg (by simp [hc]), h2 c (by omega) (by omega) ⟨fun _ => hn.1 (by omega), fun h => absurd h (by omega), fun h => absurd h (by omega)⟩]
    exact rest_none (.inr ⟨rfl, hn.2.1 (by omega)⟩)
  have : m = 0 ∨ m = 1 ∨ m = 2 ∨ m = 3 := by omega
  rcases this with rfl | rfl | rfl | rfl
  · obtain ⟨c, rfl⟩ : ∃ c, b = c + 1 := ⟨b - 1, by omega⟩
    simp only [rd]
    rw [if_neg (by simp [hc]), h1 c (by omega) (by omega) ⟨fun _ => hn.1 (by omega), fun _ => hn.2.1 (by omega), fun h => absurd h (by omega)⟩]
    exact rest_none (.inl ⟨rfl, hn.2.2 (by omega)⟩)
  · exact h1 b (by omega) (by omega) hn
  · exact h2 b (by omega) (by omega) hn
  · exact h b (by omega)

theorem rd_txt {s : List UInt8} : ∀ (t : Tr), t.ok → ∀ (p : Nat) (l : List NodeD), Has s p (txt t) → ∀ b, 8 * (txt t).length ≤ b → rd s b 3 ⟨p, 0, l⟩ = ⟨p + (txt t).length, 0, l ++ t.enc l.length⟩
  | .leaf k a, ht, p, l, hs, b, hb => by
    rcases ht with ⟨rfl | rfl, rfl⟩ | ⟨rfl, h0, h1⟩
    · have hs' : Has s p [116] := hs
      have e : txt (.leaf 1 0) = [116] := rfl
      rw [e] at hb ⊢
      obtain ⟨c, rfl⟩ : ∃ c, b = c + 1 := ⟨b - 1, by simp at hb; omega⟩
      simp only [rd, hs'.isB]
      rfl
    · have hs' : Has s p [102] := hs
      have e : txt (.leaf 2 0) = [102] := rfl
      rw [e] at hb ⊢
      obtain ⟨c, rfl⟩ : ∃ c, b = c + 1 := ⟨b - 1, by simp at hb; omega⟩
      simp only [rd, hs'.isB]
      rfl
    · have hs' : Has s p [digitB a] := hs
      have e : txt (.leaf 3 a) = [digitB a] := rfl
      rw [e] at hb ⊢
      obtain ⟨c, rfl⟩ : ∃ c, b = c + 1 := ⟨b - 1, by simp at hb; omega⟩
      obtain ⟨g1, g2⟩ := hs'.at
      simp only [rd, hs'.isB, g2, g1]
      have : a = 0 ∨ a = 1 ∨ a = 2 := by omega
      rcases this with rfl | rfl | rfl <;> rfl
  | .one k t, ht, p, l, hs, b, hb => by
    obtain ⟨hk, ht⟩ := ht
    have ih := rd_txt (s := s) t ht
    have e : ∃ x, sgn k = [x] ∧ ∀ c, rd s (c + 1) 3 ⟨p, 0, l⟩ = (rd s c 3 ⟨p + 1, 0, l⟩).one k := by
      rcases hk with rfl | rfl | rfl | rfl
      · have hs' : Has s p [33] := Has.left (u := txt t) hs
        exact ⟨33, rfl, fun c => by simp only [rd, hs'.isB]; rfl⟩
      · have hs' : Has s p [88] := Has.left (u := txt t) hs
        exact ⟨88, rfl, fun c => by simp only [rd, hs'.isB]; rfl⟩
      · have hs' : Has s p [70] := Has.left (u := txt t) hs
        exact ⟨70, rfl, fun c => by simp only [rd, hs'.isB]; rfl⟩
      · have hs' : Has s p [71] := Has.left (u := txt t) hs
        exact ⟨71, rfl, fun c => by simp only [rd, hs'.isB]; rfl⟩
    obtain ⟨x, e1, e2⟩ := e
    have e3 : txt (.one k t) = [x] ++ txt t := by simp only [txt, e1]
    rw [e3] at hs hb ⊢
    obtain ⟨c, rfl⟩ : ∃ c, b = c + 1 := ⟨b - 1, by simp at hb; omega⟩
    rw [e2, ih (p + 1) l hs.right c (by simp at hb; omega)]
    simp only [PR.one, ↓reduceIte, Tr.enc, List.length_append, Tr.length_enc, List.length_cons, List.length_nil, List.append_assoc]
    rw [PR.mk.injEq]
    exact ⟨by omega, rfl, rfl⟩
  | .two k t1 t2, ht, p, l, hs, b, hb => by
    obtain ⟨hk, ht1, ht2⟩ := ht
    have ih1 := rd_txt (s := s) t1 ht1
    have ih2 := rd_txt (s := s) t2 ht2
    have hsg : ∃ x, sgn k = [x] := by
      rcases hk with rfl | rfl | rfl | rfl
      · exact ⟨38, rfl⟩
      · exact ⟨124, rfl⟩
      · exact ⟨85, rfl⟩
      · exact ⟨82, rfl⟩
    obtain ⟨x, hx⟩ := hsg
    have e3 : txt (.two k t1 t2) = [40] ++ (txt t1 ++ ([x] ++ (txt t2 ++ [41]))) := by simp only [txt, hx, List.append_assoc]
    rw [e3] at hs hb ⊢
    have q0 := hs.left
    have q1 := hs.right.left
    have q2 := hs.right.right.left
    have q3 := hs.right.right.right.left
    have q4 := hs.right.right.right.right
    simp only [List.length_cons, List.length_nil, Nat.zero_add] at q1 q2 q3 q4
    simp only [List.length_append, List.length_cons, List.length_nil] at hb
    obtain ⟨c, rfl⟩ : ∃ c, b = c + 1 := ⟨b - 1, by omega⟩
    have s1 : rd s (c + 1) 3 ⟨p, 0, l⟩ = (rd s c 0 ⟨p + 1, 0, l⟩).close s := by simp only [rd, q0.isB]; rfl
    have hA : ∀ c', 8 * (txt t1).length ≤ c' → rd s c' 3 ⟨p + 1, 0, l⟩ = ⟨p + 1 + (txt t1).length, 0, l ++ t1.enc l.length⟩ := fun c' h => ih1 (p + 1) l q1 c' h
    have hB : ∀ c', 8 * (txt t2).length ≤ c' → rd s c' 3 ⟨p + 1 + (txt t1).length + 1, 0, l ++ t1.enc l.length⟩ = ⟨p + 1 + (txt t1).length + 1 + (txt t2).length, 0, (l ++ t1.enc l.length) ++ t2.enc (l ++ t1.enc l.length).length⟩ := fun c' h => ih2 _ _ q3 c' h
    generalize hR1 : (PR.mk (p + 1 + (txt t1).length) 0 (l ++ t1.enc l.length)) = R1 at hA
    have hR1p : R1.p = p + 1 + (txt t1).length := by rw [← hR1]
    have hR1c : R1.c = 0 := by rw [← hR1]
    have hR1l : R1.l = l ++ t1.enc l.length := by rw [← hR1]
    have hadv : R1.adv = ⟨p + 1 + (txt t1).length + 1, 0, l ++ t1.enc l.length⟩ := by rw [← hR1]; rfl
    generalize hR2 : (PR.mk (p + 1 + (txt t1).length + 1 + (txt t2).length) 0 ((l ++ t1.enc l.length) ++ t2.enc (l ++ t1.enc l.length).length)) = R2 at hB
    have hR2p : R2.p = p + 1 + (txt t1).length + 1 + (txt t2).length := by rw [← hR2]
    have hR2c : R2.c = 0 := by rw [← hR2]
    have hend : ∀ y, isB s R2.p y = ((41 : UInt8) == y) := fun y => by rw [hR2p]; exact q4.isB
    have hmid : ∀ y, isB s R1.p y = (x == y) := fun y => by rw [hR1p]; exact q2.isB
    have hns : ∀ m, noSign s R2.p m := fun m => by
      refine ⟨fun _ => ⟨?_, ?_⟩, fun _ => ?_, fun _ => ?_⟩ <;> rw [hend] <;> rfl
    have hB' : ∀ m c', m ≤ 3 → 8 * (txt t2).length + 4 ≤ c' → rd s c' m R1.adv = R2 := fun m c' hm hc' => by
      rw [hadv]
      exact rd_up rfl hR2c (fun b' hb' => hB b' (by omega)) hm (by omega) (hns m)
    have key : rd s c 0 ⟨p + 1, 0, l⟩ = ⟨R2.p, 0, R2.l ++ [⟨k, (R1.l.length : Int) - 1, (R2.l.length : Int) - 1⟩]⟩ := by
      have htwo : R2.two k ((R1.l.length : Int) - 1) = ⟨R2.p, 0, R2.l ++ [⟨k, (R1.l.length : Int) - 1, (R2.l.length : Int) - 1⟩]⟩ := by unfold PR.two; rw [if_pos hR2c]
      have e0 : ∀ c', rd s (c' + 1) 0 ⟨p + 1, 0, l⟩ = rd s c' 4 (rd s c' 1 ⟨p + 1, 0, l⟩) := fun c' => by simp only [rd]; rfl
      have e1 : ∀ c', rd s (c' + 1) 1 ⟨p + 1, 0, l⟩ = rd s c' 5 (rd s c' 2 ⟨p + 1, 0, l⟩) := fun c' => by simp only [rd]; rfl
      rcases hk with rfl | rfl | rfl | rfl
      · have hx' : x = 38 := by have : sgn 5 = [38] := rfl
                                rw [this] at hx; simpa using hx.symm
        subst hx'
        obtain ⟨d, rfl⟩ : ∃ d, c = d + 3 := ⟨c - 3, by omega⟩
        have g1 : rd s (d + 1) 2 ⟨p + 1, 0, l⟩ = R1 := rd_up rfl hR1c (fun b' hb' => hA b' (by omega)) (by omega) (by omega) ⟨fun _ => ⟨by rw [hmid]; rfl, by rw [hmid]; rfl⟩, fun h => absurd h (by omega), fun h => absurd h (by omega)⟩
        rw [e0, e1, g1]
        have g2 : rd s (d + 1) 5 R1 = rd s d 5 ((rd s d 2 R1.adv).two 5 ((R1.l.length : Int) - 1)) := by
          simp only [rd]; rw [if_neg (by simp [hR1c]), hmid]; rfl
        rw [g2, hB' 2 d (by omega) (by omega), htwo]
        rw [rest_none (.inr ⟨rfl, by dsimp only; rw [hend]; rfl⟩), rest_none (.inl ⟨rfl, by dsimp only; rw [hend]; rfl⟩)]
      · have hx' : x = 124 := by have : sgn 6 = [124] := rfl
                                 rw [this] at hx; simpa using hx.symm
        subst hx'
        obtain ⟨d, rfl⟩ : ∃ d, c = d + 2 := ⟨c - 2, by omega⟩
        have g1 : rd s (d + 1) 1 ⟨p + 1, 0, l⟩ = R1 := rd_up rfl hR1c (fun b' hb' => hA b' (by omega)) (by omega) (by omega) ⟨fun _ => ⟨by rw [hmid]; rfl, by rw [hmid]; rfl⟩, fun _ => by rw [hmid]; rfl, fun h => absurd h (by omega)⟩
        rw [e0, g1]
        have g2 : rd s (d + 1) 4 R1 = rd s d 4 ((rd s d 1 R1.adv).two 6 ((R1.l.length : Int) - 1)) := by
          simp only [rd]; rw [if_neg (by simp [hR1c]), hmid]; rfl
        rw [g2, hB' 1 d (by omega) (by omega), htwo]
        rw [rest_none (.inl ⟨rfl, by dsimp only; rw [hend]; rfl⟩)]
      · have hx' : x = 85 := by have : sgn 8 = [85] := rfl
                                rw [this] at hx; simpa using hx.symm
        subst hx'
        obtain ⟨d, rfl⟩ : ∃ d, c = d + 3 := ⟨c - 3, by omega⟩
        have g2 : rd s (d + 1) 2 ⟨p + 1, 0, l⟩ = (rd s d 2 R1.adv).two 8 ((R1.l.length : Int) - 1) := by
          have e2 : rd s (d + 1) 2 ⟨p + 1, 0, l⟩ = if (rd s d 3 ⟨p + 1, 0, l⟩).c ≠ 0 then rd s d 3 ⟨p + 1, 0, l⟩
            else if isB s (rd s d 3 ⟨p + 1, 0, l⟩).p 85 then (rd s d 2 (rd s d 3 ⟨p + 1, 0, l⟩).adv).two 8 (((rd s d 3 ⟨p + 1, 0, l⟩).l.length : Int) - 1)
            else if isB s (rd s d 3 ⟨p + 1, 0, l⟩).p 82 then (rd s d 2 (rd s d 3 ⟨p + 1, 0, l⟩).adv).two 9 (((rd s d 3 ⟨p + 1, 0, l⟩).l.length : Int) - 1)
            else rd s d 3 ⟨p + 1, 0, l⟩ := by simp only [rd]; rfl
          rw [e2, hA d (by omega), if_neg (by simp [hR1c]), hmid]; rfl
        rw [e0, e1, g2, hB' 2 d (by omega) (by omega), htwo]
        rw [rest_none (.inr ⟨rfl, by dsimp only; rw [hend]; rfl⟩), rest_none (.inl ⟨rfl, by dsimp only; rw [hend]; rfl⟩)]
      · have hx' : x = 82 := by have : sgn 9 = [82] := rfl
                                rw [this] at hx; simpa using hx.symm
        subst hx'
        obtain ⟨d, rfl⟩ : ∃ d, c = d + 3 := ⟨c - 3, by omega⟩
        have g2 : rd s (d + 1) 2 ⟨p + 1, 0, l⟩ = (rd s d 2 R1.adv).two 9 ((R1.l.length : Int) - 1) := by
          have e2 : rd s (d + 1) 2 ⟨p + 1, 0, l⟩ = if (rd s d 3 ⟨p + 1, 0, l⟩).c ≠ 0 then rd s d 3 ⟨p + 1, 0, l⟩
            else if isB s (rd s d 3 ⟨p + 1, 0, l⟩).p 85 then (rd s d 2 (rd s d 3 ⟨p + 1, 0, l⟩).adv).two 8 (((rd s d 3 ⟨p + 1, 0, l⟩).l.length : Int) - 1)
            else if isB s (rd s d 3 ⟨p + 1, 0, l⟩).p 82 then (rd s d 2 (rd s d 3 ⟨p + 1, 0, l⟩).adv).two 9 (((rd s d 3 ⟨p + 1, 0, l⟩).l.length : Int) - 1)
            else rd s d 3 ⟨p + 1, 0, l⟩ := by simp only [rd]; rfl
          rw [e2, hA d (by omega), if_neg (by simp [hR1c]), hmid, hmid]; rfl
        rw [e0, e1, g2, hB' 2 d (by omega) (by omega), htwo]
        rw [rest_none (.inr ⟨rfl, by dsimp only; rw [hend]; rfl⟩), rest_none (.inl ⟨rfl, by dsimp only; rw [hend]; rfl⟩)]
    rw [s1, key]
    unfold PR.close
    dsimp only
    rw [if_pos rfl, hend, if_pos (show ((41 : UInt8) == 41) = true from rfl)]
    simp only [PR.adv, hR1l, ← hR2, Tr.enc, List.length_append, Tr.length_enc, List.length_cons, List.length_nil, List.append_assoc]
    have e1 : (l.length + (t1.size + t2.size) : Nat) = l.length + t1.size + t2.size := by omega
    rw [PR.mk.injEq, e1]
    exact ⟨by omega, rfl, rfl⟩

/-! ### what is read is a right tree -/

/-- what a reading put there is a right tree -/
def Grow (l l' : List NodeD) : Prop := ∃ t : Tr, t.ok ∧ l' = l ++ t.enc l.length

theorem grow_one {l l' : List NodeD} {k : Int} (hk : k = 4 ∨ k = 7 ∨ k = 10 ∨ k = 11) (h : Grow l l') : Grow l (l' ++ [⟨k, (l'.length : Int) - 1, 0⟩]) := by
  obtain ⟨t, h1, rfl⟩ := h
  refine ⟨.one k t, ⟨hk, h1⟩, ?_⟩
  simp [Tr.enc, Tr.length_enc]
theorem grow_two {l l' l2 : List NodeD} {k : Int} (hk : k = 5 ∨ k = 6 ∨ k = 8 ∨ k = 9) (h : Grow l l') (h2 : Grow l' l2) : Grow l (l2 ++ [⟨k, (l'.length : Int) - 1, (l2.length : Int) - 1⟩]) := by
  obtain ⟨t, h1, rfl⟩ := h
  obtain ⟨t2, h3, rfl⟩ := h2
  refine ⟨.two k t t2, ⟨hk, h1, h3⟩, ?_⟩
  simp [Tr.enc, Tr.length_enc, Int.add_assoc]

theorem two_c {q : PR} {k f : Int} (h : (q.two k f).c = 0) : q.c = 0 ∧ (q.two k f).l = q.l ++ [⟨k, f, (q.l.length : Int) - 1⟩] := by
  unfold PR.two at h ⊢
  split
  · rename_i hq; exact ⟨hq, rfl⟩
  · rename_i hq; rw [if_neg hq] at h; exact absurd h hq
theorem one_c {q : PR} {k : Int} (h : (q.one k).c = 0) : q.c = 0 ∧ (q.one k).l = q.l ++ [⟨k, (q.l.length : Int) - 1, 0⟩] := by
  unfold PR.one at h ⊢
  split
  · rename_i hq; exact ⟨hq, rfl⟩
  · rename_i hq; rw [if_neg hq] at h; exact absurd h hq
theorem bad_c {s : List UInt8} {q : PR} : (q.bad s).c ≠ 0 := by
  unfold PR.bad
  dsimp only
  split <;> omega
theorem close_c {s : List UInt8} {q : PR} (h : (q.close s).c = 0) : q.c = 0 ∧ (q.close s).l = q.l := by
  unfold PR.close at h ⊢
  split
  · rename_i hq
    split
    · exact ⟨hq, rfl⟩
    · exact ⟨hq, rfl⟩
  · rename_i hq; rw [if_neg hq] at h; exact absurd h hq

/-- what is read is a right tree; the rests go on with one -/
theorem rd_grow {s : List UInt8} : ∀ (b m : Nat) (r : PR), r.p ≤ s.length → (r.c = 0 → need s m r.p ≤ b) → (rd s b m r).c = 0 →
    (m ≤ 3 → Grow r.l (rd s b m r).l) ∧ (4 ≤ m → ∀ l0, Grow l0 r.l → Grow l0 (rd s b m r).l)
  | 0, m, r, hp, hb, hc => by
    have hc' : r.c = 0 := hc
    have := hb hc'
    unfold need rank at this
    split at this <;> omega
  | b + 1, m, r, hp, hb, hc => by
    have hc' : r.c = 0 := by
      by_cases h : r.c = 0
      · exact h
      · rw [rd_err h] at hc; exact absurd hc h
    have hb := hb hc'
    have adv : ∀ (x : UInt8) (m' : Nat) (q : PR), r.p ≤ q.p → isB s q.p x = true → m' ≤ 3 → (rd s b m' q.adv).c = 0 → Grow q.l (rd s b m' q.adv).l := fun x m' q hq hx hm' h => by
      have h1 := isB_lt hx
      refine (rd_grow b m' q.adv h1 (fun _ => ?_) h).1 hm'
      have : rank m' ≤ 7 := by unfold rank; split <;> omega
      have : 1 ≤ rank m := by unfold rank; split <;> omega
      have e : q.adv.p = q.p + 1 := rfl
      unfold need at *
      omega
    have err : ∀ b m (q : PR), (rd s b m q).c = 0 → q.c = 0 := fun b m q h => by
      by_cases hq : q.c = 0
      · exact hq
      · rw [rd_err hq] at h; exact absurd h hq
    have lead : ∀ (m1 m2 : Nat), m1 ≤ 3 → 4 ≤ m2 → rank m1 + 1 ≤ rank m → rank m2 = 1 → 2 ≤ rank m → (rd s b m2 (rd s b m1 r)).c = 0 → Grow r.l (rd s b m2 (rd s b m1 r)).l := fun m1 m2 h1 h2 h3 h4 h5 h => by
      have hl := rd_le b m1 r hp
      have g1 := (rd_grow b m1 r hp (fun _ => by unfold need at *; omega) (err _ _ _ h)).1 h1
      have := hl.1
      exact (rd_grow b m2 _ hl.2.1 (fun _ => by unfold need at *; omega) h).2 h2 _ g1
    simp only [rd] at hc ⊢
    rw [if_neg (by simp [hc'])] at hc ⊢
    split at hc
    · exact ⟨fun _ => lead 1 4 (by omega) (by omega) (by decide) (by decide) (by decide) hc, fun h => absurd h (by omega)⟩
    · exact ⟨fun _ => lead 2 5 (by omega) (by omega) (by decide) (by decide) (by decide) hc, fun h => absurd h (by omega)⟩
    · refine ⟨fun _ => ?_, fun h => absurd h (by omega)⟩
      have hl := rd_le b 3 r hp
      have hlp := hl.1
      split at hc
      · rename_i h; exact absurd hc h
      · rename_i hq
        have hq : (rd s b 3 r).c = 0 := by simpa using hq
        have r2 : rank 2 = 4 := rfl
        have r3 : rank 3 = 3 := rfl
        have g1 := (rd_grow b 3 r hp (fun _ => by unfold need at *; omega) hq).1 (by omega)
        split at hc
        · rename_i hx
          obtain ⟨k1, k2⟩ := two_c hc
          have g2 := adv 85 2 _ hlp hx (by omega) k1
          rw [if_neg (by simp [hq]), if_pos hx, k2]
          exact grow_two (by omega) g1 g2
        · rename_i hx
          split at hc
          · rename_i hy
            obtain ⟨k1, k2⟩ := two_c hc
            have g2 := adv 82 2 _ hlp hy (by omega) k1
            rw [if_neg (by simp [hq]), if_neg hx, if_pos hy, k2]
            exact grow_two (by omega) g1 g2
          · rename_i hy
            rw [if_neg (by simp [hq]), if_neg hx, if_neg hy]
            exact g1
    · refine ⟨fun _ => ?_, fun h => absurd h (by omega)⟩
      have ones : ∀ (x : UInt8) (k : Int), (k = 4 ∨ k = 7 ∨ k = 10 ∨ k = 11) → isB s r.p x = true → ((rd s b 3 r.adv).one k).c = 0 → Grow r.l ((rd s b 3 r.adv).one k).l := fun x k hk hx h => by
        obtain ⟨k1, k2⟩ := one_c h
        rw [k2]
        exact grow_one hk (adv x 3 r (Nat.le_refl _) hx (by omega) k1)
      have leafs : ∀ (k a : Int), (Tr.leaf k a).ok → Grow r.l (r.leaf k a).l := fun k a h => ⟨.leaf k a, h, rfl⟩
      by_cases h1 : isB s r.p 33 = true
      · rw [if_pos h1] at hc ⊢; exact ones 33 4 (by omega) h1 hc
      rw [if_neg h1] at hc ⊢
      by_cases h2 : isB s r.p 88 = true
      · rw [if_pos h2] at hc ⊢; exact ones 88 7 (by omega) h2 hc
      rw [if_neg h2] at hc ⊢
      by_cases h3 : isB s r.p 70 = true
      · rw [if_pos h3] at hc ⊢; exact ones 70 10 (by omega) h3 hc
      rw [if_neg h3] at hc ⊢
      by_cases h4 : isB s r.p 71 = true
      · rw [if_pos h4] at hc ⊢; exact ones 71 11 (by omega) h4 hc
      rw [if_neg h4] at hc ⊢
      by_cases h5 : isB s r.p 40 = true
      · rw [if_pos h5] at hc ⊢
        obtain ⟨k1, k2⟩ := close_c hc
        rw [k2]
        exact adv 40 0 r (Nat.le_refl _) h5 (by omega) k1
      rw [if_neg h5] at hc ⊢
      by_cases h6 : isB s r.p 116 = true
      · rw [if_pos h6]; exact leafs 1 0 (.inl ⟨.inl rfl, rfl⟩)
      rw [if_neg h6] at hc ⊢
      by_cases h7 : isB s r.p 102 = true
      · rw [if_pos h7]; exact leafs 2 0 (.inl ⟨.inr rfl, rfl⟩)
      rw [if_neg h7] at hc ⊢
      by_cases h8 : r.p < s.length ∧ 48 ≤ (s.getD r.p 0).toNat ∧ (s.getD r.p 0).toNat < 51
      · rw [if_pos h8]; exact leafs 3 _ (.inr ⟨rfl, by omega, by omega⟩)
      rw [if_neg h8] at hc
      exact absurd hc bad_c
    · refine ⟨fun h => absurd h (by omega), fun _ l0 h0 => ?_⟩
      split at hc
      · rename_i hx
        have h1 := PR.two_le (k := 6) (f := ((r.l.length : Int) - 1)) (rd_le b 1 r.adv (isB_lt hx))
        have h2 := (rd_le b 1 r.adv (isB_lt hx)).1
        have e : r.adv.p = r.p + 1 := rfl
        have e2 : ∀ q : PR, (q.two 6 ((r.l.length : Int) - 1)).p = q.p := fun q => by unfold PR.two; split <;> rfl
        have ec := err _ _ _ hc
        obtain ⟨k1, k2⟩ := two_c ec
        rw [if_pos hx]
        refine (rd_grow b 4 _ h1.2.1 (fun _ => ?_) hc).2 (by omega) l0 ?_
        · have := isB_lt hx
          rw [e2]; unfold need rank at *; omega
        · rw [k2]
          exact grow_two (by omega) h0 (adv 124 1 r (Nat.le_refl _) hx (by omega) k1)
      · rename_i hx
        rw [if_neg hx]; exact h0
    · rename_i m' hm0 hm1 hm2 hm3 hm4
      have hrk : rank m = 1 := by
        unfold rank
        split <;> first | rfl | exact absurd rfl (by assumption)
      refine ⟨fun h => ?_, fun _ l0 h0 => ?_⟩
      · exfalso
        have : m = 0 ∨ m = 1 ∨ m = 2 ∨ m = 3 := by omega
        rcases this with h | h | h | h <;> contradiction
      split at hc
      · rename_i hx
        have h1 := PR.two_le (k := 5) (f := ((r.l.length : Int) - 1)) (rd_le b 2 r.adv (isB_lt hx))
        have h2 := (rd_le b 2 r.adv (isB_lt hx)).1
        have e : r.adv.p = r.p + 1 := rfl
        have e2 : ∀ q : PR, (q.two 5 ((r.l.length : Int) - 1)).p = q.p := fun q => by unfold PR.two; split <;> rfl
        have ec := err _ _ _ hc
        obtain ⟨k1, k2⟩ := two_c ec
        rw [if_pos hx]
        refine (rd_grow b 5 _ h1.2.1 (fun _ => ?_) hc).2 (by omega) l0 ?_
        · have := isB_lt hx
          have : rank 5 = 1 := rfl
          rw [e2]; unfold need at *; omega
        · rw [k2]
          exact grow_two (by omega) h0 (adv 38 2 r (Nat.le_refl _) hx (by omega) k1)
      · rename_i hx
        rw [if_neg hx]; exact h0

/-- all of a text -/
def parseL (s : List UInt8) : PR :=
  if 200 < s.length then ⟨0, 1, []⟩
  else
    let r := rd s 1607 0 ⟨0, 0, []⟩
    if r.c ≠ 0 then ⟨r.p, r.c, []⟩ else if r.p < s.length then ⟨r.p, 5, []⟩ else if 31 < r.l.length then ⟨0, 4, []⟩ else ⟨s.length, 0, r.l⟩

theorem parse_txt {t : Tr} (h : t.ok) (hs : t.size ≤ 31) : parseL (txt t) = ⟨(txt t).length, 0, t.enc 0⟩ := by
  have hl := length_txt t
  have h1 : Has (txt t) 0 (txt t) := ⟨[], [], by simp, rfl⟩
  have hn : ∀ y, isB (txt t) (0 + (txt t).length) y = false := fun y => isB_neg (.inl (by omega))
  have hu : rd (txt t) 1607 0 ⟨0, 0, []⟩ = ⟨0 + (txt t).length, 0, [] ++ t.enc 0⟩ := by
    refine rd_up rfl rfl (fun b' hb' => ?_) (by omega) (by omega) ⟨fun _ => ⟨hn _, hn _⟩, fun _ => hn _, fun _ => hn _⟩
    exact rd_txt t h 0 [] h1 b' (by omega)
  unfold parseL
  rw [if_neg (by omega), hu]
  dsimp only
  rw [if_neg (by simp), if_neg (by omega), if_neg (by simp [Tr.length_enc]; omega)]
  simp

theorem parse_tree {s : List UInt8} (h : (parseL s).c = 0) : ∃ t : Tr, t.ok ∧ t.size ≤ 31 ∧ (parseL s).l = t.enc 0 := by
  unfold parseL at h ⊢
  split at h
  · cases h
  · rename_i hs
    dsimp only at h ⊢
    split at h
    · exact absurd h (by assumption)
    · split at h
      · cases h
      · split at h
        · cases h
        · rename_i h1 h2 h3
          rw [if_neg hs, if_neg h1, if_neg h2, if_neg h3]
          have h1' : (rd s 1607 0 ⟨0, 0, []⟩).c = 0 := by simpa using h1
          obtain ⟨t, t1, t2⟩ := (rd_grow 1607 0 ⟨0, 0, []⟩ (Nat.zero_le _) (fun _ => by have r0 : rank 0 = 7 := rfl; unfold need; dsimp only; omega) h1').1 (by omega)
          refine ⟨t, t1, ?_, by rw [t2]; simp⟩
          have := congrArg List.length t2
          rw [List.length_append, Tr.length_enc] at this
          simp at this
          omega

theorem parse_le (s : List UInt8) : (parseL s).p ≤ s.length := by
  unfold parseL
  split
  · simp
  · have := (rd_le 1607 0 ⟨0, 0, []⟩ (s := s) (Nat.zero_le _)).2.1
    dsimp only
    (repeat' split) <;> first | exact this | exact Nat.zero_le _ | exact Nat.le_refl _

end Go.Proofs.Ytpfbkblgefddlaa.Ct

