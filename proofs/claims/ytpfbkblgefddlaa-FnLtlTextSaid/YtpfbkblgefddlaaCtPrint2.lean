/- Formulas as text: the reference's printer. -/
import Derived.Test.YtpfbkblgefddlaaCtPrint1
namespace Go.Proofs.Ytpfbkblgefddlaa.Ct
set_option linter.unusedSimpArgs false
set_option linter.unusedVariables false
open Go Go.Proofs Go.Proofs.Ytpfbkblgefddlaa.Av

def RSign8 (xs : List AV) (r : AV) (objs : List AObj) : Prop := ∃ k, xs = [.int .i64 k] ∧ 4 ≤ k ∧ r = .str (sgn k) ∧ objs = []
theorem RSign8_mk {k : Int} (h : 4 ≤ k) : RSign8 [.int .i64 k] (.str (sgn k)) [] := ⟨k, rfl, h, rfl, rfl⟩

theorem node_atJ {l : List NodeD} {x : Int} {j : Nat} {n : NodeD} (hx : x = j) (hj : j < l.length) (hn : l.getD j default = n) : (nodeRows l)[x.toNat]? = some (nodeRow n) := by
  subst hx
  rw [node_at hj, hn]

def RPrintS (b : Nat) (xs : List AV) (r : AV) (objs : List AObj) : Prop := ∃ l t o x, xs = [.val (nodeRows l), .int .i64 x] ∧ x + 1 = ((o + t.size : Nat) : Int) ∧ t.ok ∧ t.At l o ∧ t.size ≤ b ∧ l.length ≤ 1000000 ∧ r = .str (txt t) ∧ objs = []
theorem RPrintS_mk {b : Nat} {l : List NodeD} {t : Tr} {o : Nat} {x : Int} (hx : x + 1 = ((o + t.size : Nat) : Int)) (h1 : t.ok) (h2 : t.At l o) (h3 : t.size ≤ b) (h4 : l.length ≤ 1000000) :
    RPrintS b [.val (nodeRows l), .int .i64 x] (.str (txt t)) [] := ⟨l, t, o, x, rfl, hx, h1, h2, h3, h4, rfl, rfl⟩

theorem partsS_one {k : Int} (h : k = 4 ∨ k = 7 ∨ k = 10 ∨ k = 11) : partsS k = 1 := by
  rcases h with rfl | rfl | rfl | rfl <;> rfl
theorem partsS_two {k : Int} (h : k = 5 ∨ k = 6 ∨ k = 8 ∨ k = 9) : partsS k = 2 := by
  rcases h with rfl | rfl | rfl | rfl <;> rfl
theorem RPartsS_of {k p : Int} (h : partsS k = p) : RPartsS [.int .i64 k] (.int .i64 p) [] := ⟨k, rfl, by rw [h], rfl⟩

set_option maxHeartbeats 2000000 in
theorem s_spec_l8Print_n : ∀ b, PureSound Try.prog 105 (RPrintS b)
  | 0 => by
    rintro w own xs vs r objs - ⟨l, t, o, x, rfl, hx, h1, h2, h3, h4, rfl, rfl⟩
    have := t.size_pos
    omega
  | b + 1 => by
    have hR : Rely Try.prog (ctxOf [(129, .pure RDigit), (98, .pure RPartsS), (152, .pure RSign8), (105, .pure (RPrintS b))]) :=
      rely_cons b_spec_l2Digit.has s_spec_l2Digit (rely_cons b_spec_l8Parts.has s_spec_l8Parts (rely_cons b_spec_l8Sign.has s_spec_l8Sign (rely_cons b_spec_l8Print.has (s_spec_l8Print_n b) (rely_nil mixed))))
    refine pure_of_aw b_spec_l8Print ?_
    rintro xs r objs ⟨l, t, o, x, rfl, hx, h1, h2, h3, h4, rfl, rfl⟩ -
    have hlen := t.At_len o h2
    have htx := length_txt t
    refine ⟨by simp, vc2_sound hR _ _ _ _ _ ?_⟩
    cases t with
    | leaf k a =>
      obtain ⟨ho, hn⟩ := h2
      simp only [Tr.size] at hx hlen
      rcases h1 with ⟨rfl | rfl, rfl⟩ | ⟨rfl, ha0, ha1⟩
      · conv => whnf
        repeat' (first
          | (refine And.intro (fun hb => ?_) (fun hb => ?_)
             all_goals (try simp only [decide_eq_true_eq, decide_eq_false_iff_not, Bool.not_eq_true', Bool.not_eq_false', Bool.not_not, ne_eq, length_ints, List.length_map, beq_iff_eq, bne_iff_ne, beq_eq_false_iff_ne, bne_eq_false_iff_eq, Int.not_le, Int.not_lt, ge_iff_le, gt_iff_lt, reduceCtorEq, not_false_eq_true, not_true_eq_false, Bool.false_eq_true, Bool.true_eq_false] at hb)
             all_goals (try (exfalso; omega))
             all_goals conv => whnf)
          | (refine And.intro (live_all rfl) ?_; conv => whnf)
          | (refine And.intro rfl ?_; conv => whnf)
          | (refine ⟨_, IntWalk.i64_in _ (by omega), ?_⟩; conv => whnf)
          | (refine And.intro (okcs_all rfl) ?_; conv => whnf)
          | (refine And.intro (okvs_all rfl) ?_; conv => whnf)
          | (refine And.intro (frees_all rfl) ?_; conv => whnf)
          | (refine And.intro (bsl_all rfl) ?_; conv => whnf)
          | (refine And.intro (lens_all rfl) ?_; conv => whnf)
          | (refine And.intro (Nat.le_of_ble_eq_true rfl) ?_; conv => whnf)
          | (rw [ints_at (by omega)]; conv => whnf)
          | (rw [ints_at0 (by omega)]; conv => whnf)
          | (rw [ints_at' (by omega) (by omega)]; conv => whnf)
          | (refine And.intro (show (_ + 1) * _ ≤ _ by omega) ?_; conv => whnf)
          | (refine And.intro (show _ + 1 ≤ _ by omega) ?_; conv => whnf)
          | (refine And.intro (by first | omega | (simp only [length_ints]; omega)) ?_; conv => whnf)
          | (rw [node_atJ (by omega) ho hn]; conv => whnf)
          | fail)
        refine ⟨.inl rfl, ?_⟩
        conv => whnf
        refine ⟨[], ⟨rfl, trivial⟩, ?_, rfl, rfl⟩
        conv => whnf
        left
        conv => lhs; whnf
        rfl
      · conv => whnf
        repeat' (first
          | (refine And.intro (fun hb => ?_) (fun hb => ?_)
             all_goals (try simp only [decide_eq_true_eq, decide_eq_false_iff_not, Bool.not_eq_true', Bool.not_eq_false', Bool.not_not, ne_eq, length_ints, List.length_map, beq_iff_eq, bne_iff_ne, beq_eq_false_iff_ne, bne_eq_false_iff_eq, Int.not_le, Int.not_lt, ge_iff_le, gt_iff_lt, reduceCtorEq, not_false_eq_true, not_true_eq_false, Bool.false_eq_true, Bool.true_eq_false] at hb)
             all_goals (try (exfalso; omega))
             all_goals conv => whnf)
          | (refine And.intro (live_all rfl) ?_; conv => whnf)
          | (refine And.intro rfl ?_; conv => whnf)
          | (refine ⟨_, IntWalk.i64_in _ (by omega), ?_⟩; conv => whnf)
          | (refine And.intro (okcs_all rfl) ?_; conv => whnf)
          | (refine And.intro (okvs_all rfl) ?_; conv => whnf)
          | (refine And.intro (frees_all rfl) ?_; conv => whnf)
          | (refine And.intro (bsl_all rfl) ?_; conv => whnf)
          | (refine And.intro (lens_all rfl) ?_; conv => whnf)
          | (refine And.intro (Nat.le_of_ble_eq_true rfl) ?_; conv => whnf)
          | (rw [ints_at (by omega)]; conv => whnf)
          | (rw [ints_at0 (by omega)]; conv => whnf)
          | (rw [ints_at' (by omega) (by omega)]; conv => whnf)
          | (refine And.intro (show (_ + 1) * _ ≤ _ by omega) ?_; conv => whnf)
          | (refine And.intro (show _ + 1 ≤ _ by omega) ?_; conv => whnf)
          | (refine And.intro (by first | omega | (simp only [length_ints]; omega)) ?_; conv => whnf)
          | (rw [node_atJ (by omega) ho hn]; conv => whnf)
          | fail)
        refine ⟨.inl rfl, ?_⟩
        conv => whnf
        refine ⟨[], ⟨rfl, trivial⟩, ?_, rfl, rfl⟩
        conv => whnf
        left
        conv => lhs; whnf
        rfl
      · conv => whnf
        repeat' (first
          | (refine And.intro (fun hb => ?_) (fun hb => ?_)
             all_goals (try simp only [decide_eq_true_eq, decide_eq_false_iff_not, Bool.not_eq_true', Bool.not_eq_false', Bool.not_not, ne_eq, length_ints, List.length_map, beq_iff_eq, bne_iff_ne, beq_eq_false_iff_ne, bne_eq_false_iff_eq, Int.not_le, Int.not_lt, ge_iff_le, gt_iff_lt, reduceCtorEq, not_false_eq_true, not_true_eq_false, Bool.false_eq_true, Bool.true_eq_false] at hb)
             all_goals (try (exfalso; omega))
             all_goals conv => whnf)
          | (refine And.intro (live_all rfl) ?_; conv => whnf)
          | (refine And.intro rfl ?_; conv => whnf)
          | (refine ⟨_, IntWalk.i64_in _ (by omega), ?_⟩; conv => whnf)
          | (refine And.intro (okcs_all rfl) ?_; conv => whnf)
          | (refine And.intro (okvs_all rfl) ?_; conv => whnf)
          | (refine And.intro (frees_all rfl) ?_; conv => whnf)
          | (refine And.intro (bsl_all rfl) ?_; conv => whnf)
          | (refine And.intro (lens_all rfl) ?_; conv => whnf)
          | (refine And.intro (Nat.le_of_ble_eq_true rfl) ?_; conv => whnf)
          | (rw [ints_at (by omega)]; conv => whnf)
          | (rw [ints_at0 (by omega)]; conv => whnf)
          | (rw [ints_at' (by omega) (by omega)]; conv => whnf)
          | (refine And.intro (show (_ + 1) * _ ≤ _ by omega) ?_; conv => whnf)
          | (refine And.intro (show _ + 1 ≤ _ by omega) ?_; conv => whnf)
          | (refine And.intro (by first | omega | (simp only [length_ints]; omega)) ?_; conv => whnf)
          | (rw [node_atJ (by omega) ho hn]; conv => whnf)
          | (refine ⟨_, _, RDigit_mk (n := a) (by omega) (by omega), ?_⟩; conv => whnf)
          | fail)
        refine ⟨.inl rfl, ?_⟩
        conv => whnf
        refine ⟨[], ⟨rfl, trivial⟩, ?_, rfl, rfl⟩
        conv => whnf
        left
        conv => lhs; whnf
        rfl
    | one k t =>
      obtain ⟨hk, h1⟩ := h1
      obtain ⟨h2, ho, hn⟩ := h2
      simp only [Tr.size] at hx hlen h3
      have hps := RPartsS_of (partsS_one hk)
      have hsg := length_sgn k
      have hty := length_txt t
      have hkk : 4 ≤ k := by omega
      conv => whnf
      repeat' (first
        | (refine And.intro (fun hb => ?_) (fun hb => ?_)
           all_goals (try simp only [decide_eq_true_eq, decide_eq_false_iff_not, Bool.not_eq_true', Bool.not_eq_false', Bool.not_not, ne_eq, length_ints, List.length_map, beq_iff_eq, bne_iff_ne, beq_eq_false_iff_ne, bne_eq_false_iff_eq, Int.not_le, Int.not_lt, ge_iff_le, gt_iff_lt, reduceCtorEq, not_false_eq_true, not_true_eq_false, Bool.false_eq_true, Bool.true_eq_false] at hb)
           all_goals (try (exfalso; omega))
           all_goals conv => whnf)
        | (refine And.intro (live_all rfl) ?_; conv => whnf)
        | (refine And.intro rfl ?_; conv => whnf)
        | (refine ⟨_, IntWalk.i64_in _ (by omega), ?_⟩; conv => whnf)
        | (refine And.intro (okcs_all rfl) ?_; conv => whnf)
        | (refine And.intro (okvs_all rfl) ?_; conv => whnf)
        | (refine And.intro (frees_all rfl) ?_; conv => whnf)
        | (refine And.intro (bsl_all rfl) ?_; conv => whnf)
        | (refine And.intro (lens_all rfl) ?_; conv => whnf)
        | (refine And.intro (Nat.le_of_ble_eq_true rfl) ?_; conv => whnf)
        | (rw [ints_at (by omega)]; conv => whnf)
        | (rw [ints_at0 (by omega)]; conv => whnf)
        | (rw [ints_at' (by omega) (by omega)]; conv => whnf)
        | (refine And.intro (show (_ + 1) * _ ≤ _ by omega) ?_; conv => whnf)
        | (refine And.intro (show _ + 1 ≤ _ by omega) ?_; conv => whnf)
        | (refine And.intro (by first | omega | (simp only [length_ints]; omega)) ?_; conv => whnf)
        | (rw [node_atJ (by omega) ho hn]; conv => whnf)
        | (refine ⟨_, _, hps, ?_⟩; conv => whnf)
        | (refine ⟨_, _, RSign8_mk hkk, ?_⟩; conv => whnf)
        | (refine ⟨_, _, RPrintS_mk (t := t) (o := o) (x := ((o + t.size : Nat) : Int) - 1) (by omega) h1 h2 (by omega) h4, ?_⟩; conv => whnf)
        | fail)
      refine ⟨.inl rfl, ?_⟩
      conv => whnf
      refine ⟨[], ⟨rfl, trivial⟩, ?_, rfl, rfl⟩
      conv => whnf
      left
      conv => lhs; whnf
      rfl
    | two k s t =>
      obtain ⟨hk, hs1, h1⟩ := h1
      obtain ⟨hs2, h2, ho, hn⟩ := h2
      simp only [Tr.size] at hx hlen h3
      have hps := RPartsS_of (partsS_two hk)
      have hsg := length_sgn k
      have hty := length_txt t
      have hts := length_txt s
      have hkk : 4 ≤ k := by omega
      have hsz := s.size_pos
      have htz := t.size_pos
      conv => whnf
      repeat' (first
        | (refine And.intro (fun hb => ?_) (fun hb => ?_)
           all_goals (try simp only [decide_eq_true_eq, decide_eq_false_iff_not, Bool.not_eq_true', Bool.not_eq_false', Bool.not_not, ne_eq, length_ints, List.length_map, beq_iff_eq, bne_iff_ne, beq_eq_false_iff_ne, bne_eq_false_iff_eq, Int.not_le, Int.not_lt, ge_iff_le, gt_iff_lt, reduceCtorEq, not_false_eq_true, not_true_eq_false, Bool.false_eq_true, Bool.true_eq_false] at hb)
           all_goals (try (exfalso; omega))
           all_goals conv => whnf)
        | (refine And.intro (live_all rfl) ?_; conv => whnf)
        | (refine And.intro rfl ?_; conv => whnf)
        | (refine ⟨_, IntWalk.i64_in _ (by omega), ?_⟩; conv => whnf)
        | (refine And.intro (okcs_all rfl) ?_; conv => whnf)
        | (refine And.intro (okvs_all rfl) ?_; conv => whnf)
        | (refine And.intro (frees_all rfl) ?_; conv => whnf)
        | (refine And.intro (bsl_all rfl) ?_; conv => whnf)
        | (refine And.intro (lens_all rfl) ?_; conv => whnf)
        | (refine And.intro (Nat.le_of_ble_eq_true rfl) ?_; conv => whnf)
        | (rw [ints_at (by omega)]; conv => whnf)
        | (rw [ints_at0 (by omega)]; conv => whnf)
        | (rw [ints_at' (by omega) (by omega)]; conv => whnf)
        | (refine And.intro (show (_ + 1) * _ ≤ _ by omega) ?_; conv => whnf)
        | (refine And.intro (show _ + 1 ≤ _ by omega) ?_; conv => whnf)
        | (refine And.intro (by first | omega | (simp only [length_ints]; omega)) ?_; conv => whnf)
        | (rw [node_atJ (by omega) ho hn]; conv => whnf)
        | (refine ⟨_, _, hps, ?_⟩; conv => whnf)
        | (refine ⟨_, _, RSign8_mk hkk, ?_⟩; conv => whnf)
        | (refine ⟨_, _, RPrintS_mk (t := s) (o := o) (x := ((o + s.size : Nat) : Int) - 1) (by omega) hs1 hs2 (by omega) h4, ?_⟩; conv => whnf)
        | (refine ⟨_, _, RPrintS_mk (t := t) (o := o + s.size) (x := ((o + s.size + t.size : Nat) : Int) - 1) (by omega) h1 h2 (by omega) h4, ?_⟩; conv => whnf)
        | (refine And.intro (by simp only [List.length_append, List.length_cons, List.length_nil]; omega) ?_; conv => whnf)
        | fail)
      refine ⟨.inl rfl, ?_⟩
      conv => whnf
      refine ⟨[], ⟨rfl, trivial⟩, ?_, rfl, rfl⟩
      conv => whnf
      left
      conv => lhs; whnf
      rfl

def RPrintAll (xs : List AV) (r : AV) (objs : List AObj) : Prop := ∃ b, RPrintS b xs r objs
theorem s_spec_l8Print : PureSound Try.prog 105 RPrintAll := fun w own xs vs r objs hr ⟨b, h⟩ => s_spec_l8Print_n b w own xs vs r objs hr h

end Go.Proofs.Ytpfbkblgefddlaa.Ct

