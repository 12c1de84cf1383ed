/- Expressions of words read from text: the reading as a function. -/
import Derived.Test.YtpfbkblgefddlaaDoorCtO1
namespace Go.Proofs.YtpfbkblgefddlaaDoor.Ct
set_option linter.unusedSimpArgs false
set_option linter.unusedVariables false
open Go Go.Proofs Go.Proofs.YtpfbkblgefddlaaDoor.Av

/-- stars behind an atom -/
def stars (s : List UInt8) : Nat → PR → PR
  | 0, r => r
  | n + 1, r => if r.c = 0 ∧ isB s r.p 42 = true then stars s n ((r.adv).one 4) else r

/-- 0 a sum, 1 a product, 2 an atom, 3 the rest of a sum, 4 of a product; 5: an atom without its stars -/
def rr (s : List UInt8) : Nat → Nat → PR → PR
  | 0, _, r => r
  | b + 1, m, r =>
    if r.c ≠ 0 then r else
    match m with
    | 0 => rr s b 3 (rr s b 1 r)
    | 1 => rr s b 4 (rr s b 2 r)
    | 2 => stars s s.length (rr s b 5 r)
    | 3 => if isB s r.p 124 then rr s b 3 ((rr s b 1 r.adv).two 6 ((r.l.length : Int) - 1)) else r
    | 4 => if isB s r.p 46 then rr s b 4 ((rr s b 2 r.adv).two 5 ((r.l.length : Int) - 1)) else r
    | _ =>
      if isB s r.p 40 then (rr s b 0 r.adv).close s
      else if isB s r.p 64 then r.leaf 1 0
      else if isB s r.p 95 then r.leaf 2 0
      else if r.p < s.length ∧ 48 ≤ (s.getD r.p 0).toNat ∧ (s.getD r.p 0).toNat < 56 then r.leaf 3 (((s.getD r.p 0).toNat : Int) - 48)
      else r.bad s

theorem rr_err {s : List UInt8} {b m : Nat} {r : PR} (h : r.c ≠ 0) : rr s b m r = r := by
  cases b with
  | zero => rfl
  | succ b => simp only [rr]; rw [if_pos h]

theorem stars_no {s : List UInt8} {n : Nat} {r : PR} (h : r.c ≠ 0 ∨ isB s r.p 42 = false) : stars s n r = r := by
  cases n with
  | zero => rfl
  | succ n =>
    rw [stars, if_neg]
    rintro ⟨h1, h2⟩
    rcases h with h | h
    · exact h h1
    · rw [h] at h2; cases h2
theorem stars_yes {s : List UInt8} {n : Nat} {r : PR} (hn : s.length ≤ r.p + n) (hc : r.c = 0) (h : isB s r.p 42 = true) : ∃ m, n = m + 1 ∧ stars s n r = stars s m ⟨r.p + 1, 0, r.l ++ [⟨4, (r.l.length : Int) - 1, 0⟩]⟩ := by
  have := isB_lt h
  obtain ⟨m, rfl⟩ : ∃ m, n = m + 1 := ⟨n - 1, by omega⟩
  refine ⟨m, rfl, ?_⟩
  rw [stars, if_pos ⟨hc, h⟩]
  simp only [PR.one, PR.adv, hc, if_true]

def rank (m : Nat) : Nat := match m with | 0 => 7 | 1 => 5 | 2 => 3 | 5 => 2 | _ => 1
def need (s : List UInt8) (m p : Nat) : Nat := 8 * (s.length - p) + rank m
def fits (m b : Nat) (s : List UInt8) (r : PR) : Prop := rank m ≤ b ∧ (r.c = 0 → need s m r.p ≤ b)

theorem rr_0 {s : List UInt8} {b : Nat} {r : PR} : rr s (b + 1) 0 r = rr s b 3 (rr s b 1 r) := by
  by_cases hc : r.c = 0
  · simp only [rr]; rw [if_neg (by simp [hc])]
  · rw [rr_err hc, rr_err hc, rr_err hc]
theorem rr_1 {s : List UInt8} {b : Nat} {r : PR} : rr s (b + 1) 1 r = rr s b 4 (rr s b 2 r) := by
  by_cases hc : r.c = 0
  · simp only [rr]; rw [if_neg (by simp [hc])]
  · rw [rr_err hc, rr_err hc, rr_err hc]
theorem rr_2 {s : List UInt8} {b : Nat} {r : PR} : rr s (b + 1) 2 r = stars s s.length (rr s b 5 r) := by
  by_cases hc : r.c = 0
  · simp only [rr]; rw [if_neg (by simp [hc])]
  · rw [rr_err hc, rr_err hc, stars_no (.inl hc)]
theorem rr_3 {s : List UInt8} {b : Nat} {r : PR} (hc : r.c = 0) (h : isB s r.p 124 = true) : rr s (b + 1) 3 r = rr s b 3 ((rr s b 1 r.adv).two 6 ((r.l.length : Int) - 1)) := by
  simp only [rr]
  rw [if_neg (by simp [hc]), if_pos h]
theorem rr_4 {s : List UInt8} {b : Nat} {r : PR} (hc : r.c = 0) (h : isB s r.p 46 = true) : rr s (b + 1) 4 r = rr s b 4 ((rr s b 2 r.adv).two 5 ((r.l.length : Int) - 1)) := by
  simp only [rr]
  rw [if_neg (by simp [hc]), if_pos h]
theorem rr_3n {s : List UInt8} {b : Nat} {r : PR} (h : r.c ≠ 0 ∨ isB s r.p 124 = false) : rr s b 3 r = r := by
  by_cases hc : r.c = 0
  · have h : isB s r.p 124 = false := by rcases h with h | h; exact absurd hc h; exact h
    cases b with
    | zero => rfl
    | succ b => simp only [rr]; rw [if_neg (by simp [hc]), if_neg (by simp [h])]
  · exact rr_err hc
theorem rr_4n {s : List UInt8} {b : Nat} {r : PR} (h : r.c ≠ 0 ∨ isB s r.p 46 = false) : rr s b 4 r = r := by
  by_cases hc : r.c = 0
  · have h : isB s r.p 46 = false := by rcases h with h | h; exact absurd hc h; exact h
    cases b with
    | zero => rfl
    | succ b => simp only [rr]; rw [if_neg (by simp [hc]), if_neg (by simp [h])]
  · exact rr_err hc
theorem rr_5b {s : List UInt8} {b : Nat} {r : PR} (hc : r.c = 0) (h : isB s r.p 40 = true) : rr s (b + 1) 5 r = (rr s b 0 r.adv).close s := by
  simp only [rr]
  rw [if_neg (by simp [hc]), if_pos h]
theorem rr_5n {s : List UInt8} {b : Nat} {r : PR} (hc : r.c = 0) (h : isB s r.p 64 = true) : rr s (b + 1) 5 r = r.leaf 1 0 := by
  simp only [rr]
  rw [if_neg (by simp [hc]), if_neg (by rw [isB_ne h (by decide)]; simp), if_pos h]
theorem rr_5e {s : List UInt8} {b : Nat} {r : PR} (hc : r.c = 0) (h : isB s r.p 95 = true) : rr s (b + 1) 5 r = r.leaf 2 0 := by
  simp only [rr]
  rw [if_neg (by simp [hc]), if_neg (by rw [isB_ne h (by decide)]; simp), if_neg (by rw [isB_ne h (by decide)]; simp), if_pos h]
theorem rr_5d {s : List UInt8} {b : Nat} {r : PR} (hc : r.c = 0) (h0 : r.p < s.length) (h5 : 48 ≤ (s.getD r.p 0).toNat) (h6 : (s.getD r.p 0).toNat < 56) : rr s (b + 1) 5 r = r.leaf 3 (((s.getD r.p 0).toNat : Int) - 48) := by
  have hy : ∀ y : UInt8, y.toNat < 48 ∨ 56 ≤ y.toNat → isB s r.p y = false := fun y hy => isB_neg (.inr (fun e => by rw [e] at h5 h6; omega))
  simp only [rr, hy 40 (by decide), hy 64 (by decide), hy 95 (by decide)]
  rw [if_neg (by simp [hc])]
  simp only [Bool.false_eq_true, ↓reduceIte]
  rw [if_pos ⟨h0, h5, h6⟩]
theorem rr_5x {s : List UInt8} {b : Nat} {r : PR} (hc : r.c = 0) (h1 : isB s r.p 40 = false) (h2 : isB s r.p 64 = false) (h3 : isB s r.p 95 = false) (h4 : ¬ (r.p < s.length ∧ 48 ≤ (s.getD r.p 0).toNat ∧ (s.getD r.p 0).toNat < 56)) :
    rr s (b + 1) 5 r = r.bad s := by
  simp only [rr, h1, h2, h3]
  rw [if_neg (by simp [hc])]
  simp only [Bool.false_eq_true, ↓reduceIte]
  rw [if_neg h4]

theorem rr_c0 {s : List UInt8} {b m : Nat} {r q : PR} (h : q.sim (rr s b m r)) (hc : q.c = 0) : r.c = 0 := by
  by_cases h0 : r.c = 0
  · exact h0
  · rw [rr_err h0] at h
    rw [← h.2.1]; exact hc
theorem rr_sim {s : List UInt8} {b m : Nat} {q r : PR} (h : q.sim r) : (rr s b m q).sim (rr s b m r) := by
  by_cases hc : q.c = 0
  · rw [PR.sim_eq h hc]; exact PR.sim_refl _
  · rw [rr_err hc, rr_err (by rw [← h.2.1]; exact hc)]
    exact h
theorem stars_sim {s : List UInt8} {n : Nat} {q r : PR} (h : q.sim r) : (stars s n q).sim (stars s n r) := by
  by_cases hc : q.c = 0
  · rw [PR.sim_eq h hc]; exact PR.sim_refl _
  · rw [stars_no (.inl hc), stars_no (.inl (by rw [← h.2.1]; exact hc))]
    exact h
theorem PR.sim_trans {q r t : PR} (h1 : q.sim r) (h2 : r.sim t) : q.sim t := ⟨h1.1.trans h2.1, h1.2.1.trans h2.2.1, fun hc => (h1.2.2 hc).trans (h2.2.2 (h1.2.1 ▸ hc))⟩

/-- all of a text -/
def parseE (s : List UInt8) : PR :=
  if 200 < s.length then ⟨0, 1, []⟩
  else
    let r := rr s 1607 0 ⟨0, 0, []⟩
    if r.c ≠ 0 then ⟨r.p, r.c, []⟩ else if r.p < s.length then ⟨r.p, 5, []⟩ else if 31 < r.l.length then ⟨0, 4, []⟩ else ⟨s.length, 0, r.l⟩

def GRd (b m : Nat) : GFun := GRdOf [] (fits m b) (fun s r => rr s b m r)
/-- .. with less fuel than b -/
def GLt (b m : Nat) : GFun := fun xs objs Q => ∃ b', b' < b ∧ GRd b' m xs objs Q
theorem GLt_mk {b m : Nat} (b' : Nat) {s : List UInt8} (r : PR) {Q : AV → List (Option AObj) → Prop} (hb : b' < b) (h1 : s.length ≤ 200) (h2 : r.p ≤ s.length) (h3 : r.l.length ≤ r.p) (h4 : fits m b' s r)
    (hq : ∀ q : PR, q.sim (rr s b' m r) → r.p ≤ q.p → q.p ≤ s.length → q.l.length + r.p ≤ r.l.length + q.p → Q (.tup []) [some (rdO s q.p q.c 2 q.l.length), none, some (.arr 3 (nodeRows q.l))]) :
    GLt b m [.ptr 0 0 0] [rdO s r.p r.c 1 r.l.length, .arr 3 (nodeRows r.l)] Q := ⟨b', hb, GRdOf_mk r h1 h2 h3 h4 hq⟩
theorem lt_sound {f b m : Nat} (h : ∀ b', b' < b → GenSound Tryd.prog f 2 (GRd b' m)) : GenSound Tryd.prog f 2 (GLt b m) := fun w own0 π objs xs vs Q hl hs hr ⟨b', hb, hg⟩ => h b' hb w own0 π objs xs vs Q hl hs hr hg

end Go.Proofs.YtpfbkblgefddlaaDoor.Ct
