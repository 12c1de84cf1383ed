/- Lists of expressions read from text: what is read. -/
import Derived.Test.YtpfbkblgefddlaaDoorCtO10
namespace Go.Proofs.YtpfbkblgefddlaaDoor.Ct
set_option linter.unusedSimpArgs false
set_option linter.unusedVariables false
open Go Go.Proofs Go.Proofs.YtpfbkblgefddlaaDoor.Av

/-! ### what is read as an expression has no ';' -/

def clean (s : List UInt8) (a b : Nat) : Prop := a ≤ b ∧ ∀ j, a ≤ j → j < b → s.getD j 0 ≠ 59
theorem clean_refl {s : List UInt8} {a : Nat} : clean s a a := ⟨Nat.le_refl _, fun j h1 h2 => by omega⟩
theorem clean_trans {s : List UInt8} {a b c : Nat} (h1 : clean s a b) (h2 : clean s b c) : clean s a c :=
  ⟨Nat.le_trans h1.1 h2.1, fun j h3 h4 => if h : j < b then h1.2 j h3 h else h2.2 j (by omega) h4⟩
theorem clean_step {s : List UInt8} {p : Nat} {x : UInt8} (h : isB s p x = true) (hx : x ≠ 59) : clean s p (p + 1) := by
  simp only [isB, Bool.and_eq_true, decide_eq_true_eq, beq_iff_eq] at h
  refine ⟨by omega, fun j h1 h2 => ?_⟩
  have : j = p := by omega
  subst this
  rw [h.2]; exact hx

theorem two_c {q : PR} {k f : Int} (h : (q.two k f).c = 0) : q.c = 0 ∧ (q.two k f).p = q.p := by
  unfold PR.two at *
  split at h
  · rename_i hc; rw [if_pos hc]; exact ⟨hc, rfl⟩
  · rename_i hc; exact absurd h hc
theorem stars_clean {s : List UInt8} : ∀ (n : Nat) (r : PR), (stars s n r).c = 0 → r.c = 0 ∧ clean s r.p (stars s n r).p
  | 0, r, h => ⟨h, clean_refl⟩
  | n + 1, r, h => by
    rw [stars] at h ⊢
    split at h
    · rename_i hh
      rw [if_pos hh]
      obtain ⟨h1, h2⟩ := stars_clean n _ h
      have e : (r.adv.one 4).p = r.p + 1 := by unfold PR.one PR.adv; split <;> rfl
      rw [e] at h2
      exact ⟨hh.1, clean_trans (clean_step hh.2 (by decide)) h2⟩
    · rename_i hh
      rw [if_neg hh]
      exact ⟨h, clean_refl⟩

theorem rr_z {s : List UInt8} {b m : Nat} {r : PR} (h : (rr s b m r).c = 0) : r.c = 0 := rr_c0 (PR.sim_refl _) h

theorem rr_clean {s : List UInt8} : ∀ (b m : Nat) (r : PR), (rr s b m r).c = 0 → clean s r.p (rr s b m r).p
  | 0, m, r, h => clean_refl
  | b + 1, m, r, h => by
    have hc := rr_z h
    have lead : ∀ m1 m2, (rr s b m2 (rr s b m1 r)).c = 0 → clean s r.p (rr s b m2 (rr s b m1 r)).p := fun m1 m2 h =>
      clean_trans (rr_clean b m1 r (rr_z h)) (rr_clean b m2 _ h)
    simp only [rr] at h ⊢
    rw [if_neg (by simp [hc])] at h ⊢
    split at h
    · exact lead 1 3 h
    · exact lead 2 4 h
    · obtain ⟨h1, h2⟩ := stars_clean _ _ h
      exact clean_trans (rr_clean b 5 r h1) h2
    · split at h
      · rename_i hx
        rw [if_pos hx]
        have h1 := two_c (rr_z h)
        refine clean_trans (clean_step hx (by decide)) (clean_trans (rr_clean b 1 r.adv h1.1) ?_)
        rw [← h1.2]
        exact rr_clean b 3 _ h
      · rename_i hx
        rw [if_neg hx]
        exact clean_refl
    · split at h
      · rename_i hx
        rw [if_pos hx]
        have h1 := two_c (rr_z h)
        refine clean_trans (clean_step hx (by decide)) (clean_trans (rr_clean b 2 r.adv h1.1) ?_)
        rw [← h1.2]
        exact rr_clean b 4 _ h
      · rename_i hx
        rw [if_neg hx]
        exact clean_refl
    · split at h
      · rename_i hx
        rw [if_pos hx]
        have h1 : (rr s b 0 r.adv).c = 0 := by
          unfold PR.close at h
          split at h
          · assumption
          · exact h
        have h2 := rr_clean b 0 r.adv h1
        refine clean_trans (clean_step hx (by decide)) (clean_trans h2 ?_)
        unfold PR.close at h ⊢
        rw [if_pos h1] at h ⊢
        split at h
        · rename_i h3
          rw [if_pos h3]
          exact clean_step h3 (by decide)
        · exfalso
          simp only [PR.bad] at h
          split at h <;> omega
      · rename_i hx
        rw [if_neg hx]
        split at h
        · rename_i hx; rw [if_pos hx]; exact clean_step hx (by decide)
        · rename_i hx; rw [if_neg hx]
          split at h
          · rename_i hx; rw [if_pos hx]; exact clean_step hx (by decide)
          · rename_i hx; rw [if_neg hx]
            split at h
            · rename_i hx; rw [if_pos hx]
              refine ⟨Nat.le_succ _, fun j h1 h2 he => ?_⟩
              have : j = r.p := by simp only [PR.leaf] at h2; omega
              subst this
              have := congrArg UInt8.toNat he
              have h59 : (59 : UInt8).toNat = 59 := rfl
              omega
            · exfalso
              simp only [PR.bad] at h
              split at h <;> omega

theorem parseE_clean {s : List UInt8} (h : (parseE s).c = 0) : ∀ j, j < s.length → s.getD j 0 ≠ 59 := by
  unfold parseE at h
  split at h
  · simp at h
  · dsimp only at h
    split at h
    · rename_i hc; exact absurd h hc
    · rename_i hc
      split at h
      · simp at h
      · rename_i hp
        have hc : (rr s 1607 0 ⟨0, 0, []⟩).c = 0 := by omega
        intro j hj
        exact (rr_clean 1607 0 ⟨0, 0, []⟩ hc).2 j (Nat.zero_le _) (by omega)

/-! ### the list -/

def omOne (t : List UInt8) : Option OmegaD :=
  if (cutAt t 59).2.2 = true ∧ (parseE (cutAt t 59).1).c = 0 ∧ (parseE (cutAt t 59).2.1).c = 0 then some ⟨(parseE (cutAt t 59).1).l, (parseE (cutAt t 59).2.1).l⟩ else none
def omAll : List (List UInt8) → Option (List OmegaD)
  | [] => some []
  | t :: r => match omOne t, omAll r with
    | some o, some l => some (o :: l)
    | _, _ => none
def omParse (s : List UInt8) : List OmegaD × Bool :=
  if 2000 < s.length then ([], false) else if s = [] then ([], true) else if 4 < (pieces s 43).length then ([], false) else match omAll (pieces s 43) with
    | some l => (l, true)
    | none => ([], false)

theorem omAll_append : ∀ (a b : List (List UInt8)), omAll (a ++ b) = match omAll a, omAll b with
    | some x, some y => some (x ++ y)
    | _, _ => none
  | [], b => by simp only [List.nil_append, omAll]; cases omAll b <;> rfl
  | t :: r, b => by
    simp only [List.cons_append, omAll, omAll_append r b]
    cases omOne t <;> cases omAll r <;> cases omAll b <;> rfl
theorem omAll_take {ps : List (List UInt8)} {i : Nat} {p : List OmegaD} {o : OmegaD} (hi : i < ps.length) (h : omAll (ps.take i) = some p) (ho : omOne (ps.getD i default) = some o) : omAll (ps.take (i + 1)) = some (p ++ [o]) := by
  have e : omAll [ps.getD i default] = some [o] := by simp only [omAll, ho]
  rw [take_succ_D hi, omAll_append, h, e]
theorem omAll_none {ps : List (List UInt8)} {i : Nat} (hi : i < ps.length) (ho : omOne (ps.getD i default) = none) : omAll ps = none := by
  have e : ps = ps.take (i + 1) ++ ps.drop (i + 1) := (List.take_append_drop _ _).symm
  have e2 : omAll [ps.getD i default] = none := by simp only [omAll, ho]
  rw [e, omAll_append, take_succ_D hi, omAll_append, e2]
  cases omAll (ps.take i) <;> rfl
theorem omAll_len : ∀ {ps : List (List UInt8)} {p : List OmegaD}, omAll ps = some p → p.length = ps.length
  | [], p, h => by cases h; rfl
  | t :: r, p, h => by
    simp only [omAll] at h
    split at h
    · rename_i o l h1 h2
      cases h
      simp [omAll_len h2]
    · cases h

theorem pieces_le {c : UInt8} : ∀ {s x : List UInt8}, x ∈ pieces s c → x.length ≤ s.length
  | [], x, h => by simp [pieces] at h; subst h; exact Nat.le_refl _
  | b :: r, x, h => by
    simp only [pieces] at h
    split at h
    · rcases List.mem_cons.1 h with rfl | h
      · simp
      · have := pieces_le h; simp; omega
    · split at h
      · rename_i y ys hy
        rcases List.mem_cons.1 h with rfl | h
        · have := pieces_le (s := r) (x := y) (by rw [hy]; simp); simp; omega
        · have := pieces_le (s := r) (x := x) (by rw [hy]; simp [h]); simp; omega
      · simp at h; subst h; simp

theorem pieces_two {t : List UInt8} {c : UInt8} {a b : List UInt8} (h : pieces t c = [a, b]) : cutAt t c = (a, b, true) := by
  rcases Int.lt_or_le (Lib.indexByte t c) 0 with hi | hi
  · rw [pieces_nix hi] at h; simp at h
  · rw [pieces_ix hi] at h
    simp only [List.cons.injEq] at h
    obtain ⟨h1, h2⟩ := h
    have h3 : t.drop ((Lib.indexByte t c).toNat + 1) = b := by
      rcases Int.lt_or_le (Lib.indexByte (t.drop ((Lib.indexByte t c).toNat + 1)) c) 0 with hj | hj
      · rw [pieces_nix hj] at h2; simpa using h2
      · rw [pieces_ix hj] at h2
        have := congrArg List.length h2
        have hl := pieces_len c ((t.drop ((Lib.indexByte t c).toNat + 1)).drop ((Lib.indexByte (t.drop ((Lib.indexByte t c).toNat + 1)) c).toNat + 1))
        rw [List.length_cons, hl, List.length_singleton] at this
        omega
    unfold cutAt
    rw [if_neg (by omega), h1, h3]
theorem omOne_two {t : List UInt8} {o : OmegaD} (h : omOne t = some o) : (pieces t 59).length = 2 := by
  unfold omOne at h
  split at h
  · rename_i hh
    obtain ⟨h1, h2, h3⟩ := hh
    rcases Int.lt_or_le (Lib.indexByte t 59) 0 with hi | hi
    · unfold cutAt at h1; rw [if_pos hi] at h1; simp at h1
    · have e : (cutAt t 59).2.1 = t.drop ((Lib.indexByte t 59).toNat + 1) := by unfold cutAt; rw [if_neg (by omega)]
      rw [e] at h3
      rw [pieces_ix hi, pieces_none (parseE_clean h3)]
      rfl
  · cases h

theorem parseE_small {s : List UInt8} (h : (parseE s).c = 0) : (parseE s).l.length ≤ 31 := by
  unfold parseE at *
  split at h
  · simp at h
  · rename_i h0
    rw [if_neg h0]
    dsimp only at *
    split at h
    · rename_i hc; exact absurd h hc
    · rename_i hc
      rw [if_neg hc]
      split at h
      · simp at h
      · rename_i hp
        rw [if_neg hp]
        split at h
        · simp at h
        · rename_i hl
          rw [if_neg hl]
          dsimp only
          omega
theorem omAll_small : ∀ {ps : List (List UInt8)} {p : List OmegaD}, omAll ps = some p → szO p ≤ 186 * ps.length
  | [], p, h => by cases h; simp [szO]
  | t :: r, p, h => by
    simp only [omAll] at h
    split at h
    · rename_i o l h1 h2
      cases h
      have ih := omAll_small h2
      unfold omOne at h1
      split at h1
      · rename_i hh
        cases h1
        have g1 := parseE_small hh.2.1
        have g2 := parseE_small hh.2.2
        simp only [szO, List.length_cons]
        omega
      · cases h1
    · cases h
theorem omParse_small (s : List UInt8) : (omParse s).1.length ≤ 4 ∧ szO (omParse s).1 ≤ 744 := by
  unfold omParse
  split
  · exact ⟨by simp, by simp [szO]⟩
  · split
    · exact ⟨by simp, by simp [szO]⟩
    · split
      · exact ⟨by simp, by simp [szO]⟩
      · split
        · rename_i h
          have h1 := omAll_len h
          have h2 := omAll_small h
          exact ⟨by dsimp only; omega, by dsimp only; omega⟩
        · exact ⟨by simp, by simp [szO]⟩

end Go.Proofs.YtpfbkblgefddlaaDoor.Ct
