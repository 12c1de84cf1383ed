/- Formulas read from text: rows of parts, and all of the reference's reading. -/
import Derived.Test.YtpfbkblgefddlaaCtParse8
namespace Go.Proofs.Ytpfbkblgefddlaa.Ct
set_option linter.unusedSimpArgs false
set_option linter.unusedVariables false
open Go Go.Proofs Go.Proofs.Ytpfbkblgefddlaa.Av

theorem er0_next {s : List UInt8} {d : Nat} {q t R : PR} (a1 : rd s (d + 1) 4 q = R) (hc : q.c = 0) (hp : q.p < s.length) (hx : s.getD q.p 0 = 124) (e : t = rd s d 1 ⟨q.p + 1, 0, q.l⟩) (h : t.c = 0) :
    rd s d 4 (PR.mk t.p t.c (t.l ++ [NodeD.mk 6 ((q.l.length : Int) - 1) ((t.l.length : Int) - 1)])) = R := by
  have ha : q.adv = ⟨q.p + 1, 0, q.l⟩ := by unfold PR.adv; rw [hc]
  rw [rd_4 hc (isB_pos hp hx), ha, ← e, two_ok h] at a1
  rw [h]; exact a1
theorem er0_bad {s : List UInt8} {d : Nat} {q t R : PR} (a1 : rd s (d + 1) 4 q = R) (hc : q.c = 0) (hp : q.p < s.length) (hx : s.getD q.p 0 = 124) (e : t = rd s d 1 ⟨q.p + 1, 0, q.l⟩) (h : ¬ t.c = 0) :
    rd s d 4 t = R := by
  have ha : q.adv = ⟨q.p + 1, 0, q.l⟩ := by unfold PR.adv; rw [hc]
  rw [rd_4 hc (isB_pos hp hx), ha, ← e, two_bad h] at a1
  exact a1

set_option maxHeartbeats 8000000 in
theorem gs_row0 {b : Nat} (h0 : GenSound Try.prog 107 1 (GSLt (b + 1))) : GenSound Try.prog 107 1 (GS (b + 1) 0) := by
  have hR : Rely Try.prog (ctxOf [(107, .gen 1 (GSLt (b + 1)))]) := rely_cons b_spec_l8Read.has h0 (rely_nil mixed)
  refine gen_of_aw b_spec_l8Read ?_
  rintro xs objs Q - ⟨s, p, l, rfl, rfl, hs, hp, hl, hf, hq⟩ -
  have hln := length_nodeRows l
  simp only [need, rank] at hf
  refine ⟨by simp, vc2_sound hR _ _ _ _ _ ?_⟩
  conv => whnf
  repeat' (first
    | (refine And.intro (fun hb => ?_) (fun hb => ?_)
       all_goals (try simp only [decide_eq_true_eq, decide_eq_false_iff_not, Bool.not_eq_true', Bool.not_eq_false', Bool.not_not, ne_eq, length_ints, List.length_map, beq_iff_eq, bne_iff_ne, beq_eq_false_iff_ne, bne_eq_false_iff_eq, Int.not_le, Int.not_lt, ge_iff_le, gt_iff_lt, reduceCtorEq, not_false_eq_true, not_true_eq_false, Bool.false_eq_true, Bool.true_eq_false] at hb)
       all_goals (try (exfalso; omega))
       all_goals conv => whnf)
    | (refine And.intro (live_all rfl) ?_; conv => whnf)
    | (refine And.intro rfl ?_; conv => whnf)
    | (refine ⟨_, IntWalk.i64_in _ (by omega), ?_⟩; conv => whnf)
    | (refine And.intro (okcs_all rfl) ?_; conv => whnf)
    | (refine And.intro (okvs_all rfl) ?_; conv => whnf)
    | (refine And.intro (frees_all rfl) ?_; conv => whnf)
    | (refine And.intro (bsl_all rfl) ?_; conv => whnf)
    | (refine And.intro (lens_all rfl) ?_; conv => whnf)
    | (refine And.intro (Nat.le_of_ble_eq_true rfl) ?_; conv => whnf)
    | (rw [ints_at (by omega)]; conv => whnf)
    | (rw [ints_at0 (by omega)]; conv => whnf)
    | (rw [ints_at' (by omega) (by omega)]; conv => whnf)
    | (refine And.intro (show (_ + 1) * _ ≤ _ by omega) ?_; conv => whnf)
    | (refine And.intro (show _ + 1 ≤ _ by omega) ?_; conv => whnf)
    | (refine And.intro (by first | omega | (simp only [length_ints]; omega)) ?_; conv => whnf)
    | (refine ⟨GSLt_mk b 1 (p := p) (l := l) (by omega) hs hp hl (by simp only [need, rank]; omega) (fun q e1 a2 a3 a4 => ?_)⟩; conv => whnf)
    | (refine And.intro (show (0 : Int) < 2 by decide) ?_; conv => whnf)
    | fail)
  refine Lp.intro (α := Nat × PR) (fun a => a.1 ≤ b ∧ p ≤ a.2.p ∧ a.2.p ≤ s.length ∧ a.2.l.length + p ≤ l.length + a.2.p ∧ (a.2.c = 0 → 8 * (s.length - a.2.p) + 1 ≤ a.1) ∧ rd s a.1 4 a.2 = rd s (b + 1) 0 ⟨p, 0, l⟩) (fun a => if a.2.c = 0 then s.length + 1 - a.2.p else 0)
    (fun a => [(0, .str s), (2, .int .i64 0), (16, .int .u8 124), (17, .int .i64 6), (18, .ref 1 0 a.2.l.length), (19, .int .i64 a.2.p), (20, .int .i64 a.2.c)]) (fun a => [none, some (.arr 3 (nodeRows a.2.l))]) ?_ ?_
  · refine ⟨(b, q), ⟨Nat.le_refl _, a2, a3, a4, fun hc => by dsimp only at hc ⊢; omega, by rw [rd_0, e1]⟩, [none, some 3], rfl, rfl, And.intro (And.intro rfl rfl) trivial, ?_⟩
    repeat' (first
      | exact trivial
      | refine ⟨?_, ?_⟩
      | fail)
    all_goals first
      | with_reducible rfl
      | (conv => whnf
         try left
         conv => lhs; whnf
         first
           | rfl
           | exact congrArg (AV.int .i64) (by omega)
           | skip)
  clear e1 a2 a3 a4 q
  rintro ⟨b', q⟩ ⟨hb', a2, a3, a4, a5, a1⟩
  dsimp only at hb' a2 a3 a4 a5 a1 ⊢
  refine vc2_sound hR _ _ _ _ _ ?_
  conv => whnf
  repeat' (first
    | (refine And.intro (fun hb => ?_) (fun hb => ?_)
       all_goals (try simp only [decide_eq_true_eq, decide_eq_false_iff_not, Bool.not_eq_true', Bool.not_eq_false', Bool.not_not, ne_eq, length_ints, List.length_map, beq_iff_eq, bne_iff_ne, beq_eq_false_iff_ne, bne_eq_false_iff_eq, Int.not_le, Int.not_lt, ge_iff_le, gt_iff_lt, reduceCtorEq, not_false_eq_true, not_true_eq_false, Bool.false_eq_true, Bool.true_eq_false] at hb)
       all_goals (try (exfalso; omega))
       all_goals conv => whnf)
    | (refine And.intro (live_all rfl) ?_; conv => whnf)
    | (refine And.intro rfl ?_; conv => whnf)
    | (refine ⟨_, IntWalk.i64_in _ (by omega), ?_⟩; conv => whnf)
    | (refine And.intro (okcs_all rfl) ?_; conv => whnf)
    | (refine And.intro (okvs_all rfl) ?_; conv => whnf)
    | (refine And.intro (frees_all rfl) ?_; conv => whnf)
    | (refine And.intro (bsl_all rfl) ?_; conv => whnf)
    | (refine And.intro (lens_all rfl) ?_; conv => whnf)
    | (refine And.intro (Nat.le_of_ble_eq_true rfl) ?_; conv => whnf)
    | (rw [ints_at (by omega)]; conv => whnf)
    | (rw [ints_at0 (by omega)]; conv => whnf)
    | (rw [ints_at' (by omega) (by omega)]; conv => whnf)
    | (refine And.intro (show (_ + 1) * _ ≤ _ by omega) ?_; conv => whnf)
    | (refine And.intro (show _ + 1 ≤ _ by omega) ?_; conv => whnf)
    | (refine And.intro (by first | omega | (simp only [length_ints]; omega)) ?_; conv => whnf)
    | (rw [str_idx (by omega)]; conv => whnf)
    | (refine ⟨GSLt_mk (b' - 1) 1 (p := q.p + 1) (l := q.l) (by omega) hs (by omega) (by omega) (by simp only [need, rank]; omega) (fun t f1 b2 b3 b4 => ?_)⟩; conv => whnf)
    | (refine And.intro (by have := length_nodeRows t.l; omega) ?_; conv => whnf)
    | fail)
  · have hc : q.c = 0 := by assumption
    obtain ⟨d, rfl⟩ : ∃ d, b' = d + 1 := ⟨b' - 1, by omega⟩
    simp only [Nat.add_sub_cancel] at f1
    have a1' := er0_next a1 hc (by omega) (u8_of 124 rfl (by assumption)) f1 hb
    refine ⟨(d, PR.mk t.p t.c (t.l ++ [NodeD.mk 6 ((q.l.length : Int) - 1) ((t.l.length : Int) - 1)])), ⟨by dsimp only; omega, by dsimp only; omega, b3, by simp only [List.length_append, List.length_cons, List.length_nil]; omega, fun _ => by dsimp only; omega, a1'⟩, by dsimp only; rw [if_pos hc]; split <;> omega, [none, some 3], rfl, rfl, And.intro (And.intro rfl node_app) trivial, ?_⟩
    repeat' (first
      | exact trivial
      | refine ⟨?_, ?_⟩
      | fail)
    all_goals first
      | with_reducible rfl
      | (conv => whnf
         try left
         conv => lhs; whnf
         first
           | rfl
           | exact congrArg (AV.int .i64) (by omega)
           | skip)
    refine congrArg (AV.ref 3 0) ?_
    show t.l.length + 1 = (t.l ++ [_]).length
    simp
  · have hc : q.c = 0 := by assumption
    obtain ⟨d, rfl⟩ : ∃ d, b' = d + 1 := ⟨b' - 1, by omega⟩
    simp only [Nat.add_sub_cancel] at f1
    have a1' := er0_bad a1 hc (by omega) (u8_of 124 rfl (by assumption)) f1 hb
    refine ⟨(d, t), ⟨by dsimp only; omega, by dsimp only; omega, b3, by dsimp only; omega, fun h => absurd h hb, a1'⟩, by dsimp only; rw [if_pos hc, if_neg hb]; omega, [none, some 2], rfl, rfl, And.intro (And.intro rfl rfl) trivial, ?_⟩
    repeat' (first
      | exact trivial
      | refine ⟨?_, ?_⟩
      | fail)
    all_goals first
      | with_reducible rfl
      | (conv => whnf
         try left
         conv => lhs; whnf
         first
           | rfl
           | exact congrArg (AV.int .i64) (by omega)
           | skip)
  all_goals
    have hn : q.c ≠ 0 ∨ isB s q.p 124 = false := by
      first
      | exact .inl (by assumption)
      | exact .inr (isB_neg (.inl (by omega)))
      | exact .inr (isB_neg (.inr (u8_not 124 rfl (by assumption))))
    rw [rd_4n hn] at a1
    refine ⟨.inl rfl, ?_⟩
    conv => whnf
    first
    | exact ⟨[none, some 0], .tup [.ref 1 0 (q.l).length, .int .i64 ((q.p : Nat) : Int), .int .i64 (q.c)], [none, some (.arr 3 (nodeRows (q.l)))], ⟨rfl, And.intro (And.intro rfl (by first | rfl | exact node_app)) trivial⟩, And.intro (by first | rfl | exact congrArg (AV.ref _ 0) (by simp)) (And.intro (.inl rfl) (And.intro (.inl rfl) trivial)), rfl, hq (PR.mk (q.p) (q.c) (q.l)) (a1) (by (try dsimp only at *); omega) (by (try dsimp only at *); omega) (by (try simp only [List.length_append, List.length_cons, List.length_nil] at *); omega)⟩
    | exact ⟨[none, some 1], .tup [.ref 1 0 (q.l).length, .int .i64 ((q.p : Nat) : Int), .int .i64 (q.c)], [none, some (.arr 3 (nodeRows (q.l)))], ⟨rfl, And.intro (And.intro rfl (by first | rfl | exact node_app)) trivial⟩, And.intro (by first | rfl | exact congrArg (AV.ref _ 0) (by simp)) (And.intro (.inl rfl) (And.intro (.inl rfl) trivial)), rfl, hq (PR.mk (q.p) (q.c) (q.l)) (a1) (by (try dsimp only at *); omega) (by (try dsimp only at *); omega) (by (try simp only [List.length_append, List.length_cons, List.length_nil] at *); omega)⟩
    | exact ⟨[none, some 2], .tup [.ref 1 0 (q.l).length, .int .i64 ((q.p : Nat) : Int), .int .i64 (q.c)], [none, some (.arr 3 (nodeRows (q.l)))], ⟨rfl, And.intro (And.intro rfl (by first | rfl | exact node_app)) trivial⟩, And.intro (by first | rfl | exact congrArg (AV.ref _ 0) (by simp)) (And.intro (.inl rfl) (And.intro (.inl rfl) trivial)), rfl, hq (PR.mk (q.p) (q.c) (q.l)) (a1) (by (try dsimp only at *); omega) (by (try dsimp only at *); omega) (by (try simp only [List.length_append, List.length_cons, List.length_nil] at *); omega)⟩
    | exact ⟨[none, some 3], .tup [.ref 1 0 (q.l).length, .int .i64 ((q.p : Nat) : Int), .int .i64 (q.c)], [none, some (.arr 3 (nodeRows (q.l)))], ⟨rfl, And.intro (And.intro rfl (by first | rfl | exact node_app)) trivial⟩, And.intro (by first | rfl | exact congrArg (AV.ref _ 0) (by simp)) (And.intro (.inl rfl) (And.intro (.inl rfl) trivial)), rfl, hq (PR.mk (q.p) (q.c) (q.l)) (a1) (by (try dsimp only at *); omega) (by (try dsimp only at *); omega) (by (try simp only [List.length_append, List.length_cons, List.length_nil] at *); omega)⟩
    | exact ⟨[none, some 4], .tup [.ref 1 0 (q.l).length, .int .i64 ((q.p : Nat) : Int), .int .i64 (q.c)], [none, some (.arr 3 (nodeRows (q.l)))], ⟨rfl, And.intro (And.intro rfl (by first | rfl | exact node_app)) trivial⟩, And.intro (by first | rfl | exact congrArg (AV.ref _ 0) (by simp)) (And.intro (.inl rfl) (And.intro (.inl rfl) trivial)), rfl, hq (PR.mk (q.p) (q.c) (q.l)) (a1) (by (try dsimp only at *); omega) (by (try dsimp only at *); omega) (by (try simp only [List.length_append, List.length_cons, List.length_nil] at *); omega)⟩

theorem er1_next {s : List UInt8} {d : Nat} {q t R : PR} (a1 : rd s (d + 1) 5 q = R) (hc : q.c = 0) (hp : q.p < s.length) (hx : s.getD q.p 0 = 38) (e : t = rd s d 2 ⟨q.p + 1, 0, q.l⟩) (h : t.c = 0) :
    rd s d 5 (PR.mk t.p t.c (t.l ++ [NodeD.mk 5 ((q.l.length : Int) - 1) ((t.l.length : Int) - 1)])) = R := by
  have ha : q.adv = ⟨q.p + 1, 0, q.l⟩ := by unfold PR.adv; rw [hc]
  rw [rd_5 hc (isB_pos hp hx), ha, ← e, two_ok h] at a1
  rw [h]; exact a1
theorem er1_bad {s : List UInt8} {d : Nat} {q t R : PR} (a1 : rd s (d + 1) 5 q = R) (hc : q.c = 0) (hp : q.p < s.length) (hx : s.getD q.p 0 = 38) (e : t = rd s d 2 ⟨q.p + 1, 0, q.l⟩) (h : ¬ t.c = 0) :
    rd s d 5 t = R := by
  have ha : q.adv = ⟨q.p + 1, 0, q.l⟩ := by unfold PR.adv; rw [hc]
  rw [rd_5 hc (isB_pos hp hx), ha, ← e, two_bad h] at a1
  exact a1

set_option maxHeartbeats 8000000 in
theorem gs_row1 {b : Nat} (h0 : GenSound Try.prog 107 1 (GSLt (b + 1))) : GenSound Try.prog 107 1 (GS (b + 1) 1) := by
  have hR : Rely Try.prog (ctxOf [(107, .gen 1 (GSLt (b + 1)))]) := rely_cons b_spec_l8Read.has h0 (rely_nil mixed)
  refine gen_of_aw b_spec_l8Read ?_
  rintro xs objs Q - ⟨s, p, l, rfl, rfl, hs, hp, hl, hf, hq⟩ -
  have hln := length_nodeRows l
  simp only [need, rank] at hf
  refine ⟨by simp, vc2_sound hR _ _ _ _ _ ?_⟩
  conv => whnf
  repeat' (first
    | (refine And.intro (fun hb => ?_) (fun hb => ?_)
       all_goals (try simp only [decide_eq_true_eq, decide_eq_false_iff_not, Bool.not_eq_true', Bool.not_eq_false', Bool.not_not, ne_eq, length_ints, List.length_map, beq_iff_eq, bne_iff_ne, beq_eq_false_iff_ne, bne_eq_false_iff_eq, Int.not_le, Int.not_lt, ge_iff_le, gt_iff_lt, reduceCtorEq, not_false_eq_true, not_true_eq_false, Bool.false_eq_true, Bool.true_eq_false] at hb)
       all_goals (try (exfalso; omega))
       all_goals conv => whnf)
    | (refine And.intro (live_all rfl) ?_; conv => whnf)
    | (refine And.intro rfl ?_; conv => whnf)
    | (refine ⟨_, IntWalk.i64_in _ (by omega), ?_⟩; conv => whnf)
    | (refine And.intro (okcs_all rfl) ?_; conv => whnf)
    | (refine And.intro (okvs_all rfl) ?_; conv => whnf)
    | (refine And.intro (frees_all rfl) ?_; conv => whnf)
    | (refine And.intro (bsl_all rfl) ?_; conv => whnf)
    | (refine And.intro (lens_all rfl) ?_; conv => whnf)
    | (refine And.intro (Nat.le_of_ble_eq_true rfl) ?_; conv => whnf)
    | (rw [ints_at (by omega)]; conv => whnf)
    | (rw [ints_at0 (by omega)]; conv => whnf)
    | (rw [ints_at' (by omega) (by omega)]; conv => whnf)
    | (refine And.intro (show (_ + 1) * _ ≤ _ by omega) ?_; conv => whnf)
    | (refine And.intro (show _ + 1 ≤ _ by omega) ?_; conv => whnf)
    | (refine And.intro (by first | omega | (simp only [length_ints]; omega)) ?_; conv => whnf)
    | (refine ⟨GSLt_mk b 2 (p := p) (l := l) (by omega) hs hp hl (by simp only [need, rank]; omega) (fun q e1 a2 a3 a4 => ?_)⟩; conv => whnf)
    | (refine And.intro (show (1 : Int) < 2 by decide) ?_; conv => whnf)
    | fail)
  refine Lp.intro (α := Nat × PR) (fun a => a.1 ≤ b ∧ p ≤ a.2.p ∧ a.2.p ≤ s.length ∧ a.2.l.length + p ≤ l.length + a.2.p ∧ (a.2.c = 0 → 8 * (s.length - a.2.p) + 1 ≤ a.1) ∧ rd s a.1 5 a.2 = rd s (b + 1) 1 ⟨p, 0, l⟩) (fun a => if a.2.c = 0 then s.length + 1 - a.2.p else 0)
    (fun a => [(0, .str s), (2, .int .i64 1), (16, .int .u8 38), (17, .int .i64 5), (18, .ref 1 0 a.2.l.length), (19, .int .i64 a.2.p), (20, .int .i64 a.2.c)]) (fun a => [none, some (.arr 3 (nodeRows a.2.l))]) ?_ ?_
  · refine ⟨(b, q), ⟨Nat.le_refl _, a2, a3, a4, fun hc => by dsimp only at hc ⊢; omega, by rw [rd_1, e1]⟩, [none, some 3], rfl, rfl, And.intro (And.intro rfl rfl) trivial, ?_⟩
    repeat' (first
      | exact trivial
      | refine ⟨?_, ?_⟩
      | fail)
    all_goals first
      | with_reducible rfl
      | (conv => whnf
         try left
         conv => lhs; whnf
         first
           | rfl
           | exact congrArg (AV.int .i64) (by omega)
           | skip)
  clear e1 a2 a3 a4 q
  rintro ⟨b', q⟩ ⟨hb', a2, a3, a4, a5, a1⟩
  dsimp only at hb' a2 a3 a4 a5 a1 ⊢
  refine vc2_sound hR _ _ _ _ _ ?_
  conv => whnf
  repeat' (first
    | (refine And.intro (fun hb => ?_) (fun hb => ?_)
       all_goals (try simp only [decide_eq_true_eq, decide_eq_false_iff_not, Bool.not_eq_true', Bool.not_eq_false', Bool.not_not, ne_eq, length_ints, List.length_map, beq_iff_eq, bne_iff_ne, beq_eq_false_iff_ne, bne_eq_false_iff_eq, Int.not_le, Int.not_lt, ge_iff_le, gt_iff_lt, reduceCtorEq, not_false_eq_true, not_true_eq_false, Bool.false_eq_true, Bool.true_eq_false] at hb)
       all_goals (try (exfalso; omega))
       all_goals conv => whnf)
    | (refine And.intro (live_all rfl) ?_; conv => whnf)
    | (refine And.intro rfl ?_; conv => whnf)
    | (refine ⟨_, IntWalk.i64_in _ (by omega), ?_⟩; conv => whnf)
    | (refine And.intro (okcs_all rfl) ?_; conv => whnf)
    | (refine And.intro (okvs_all rfl) ?_; conv => whnf)
    | (refine And.intro (frees_all rfl) ?_; conv => whnf)
    | (refine And.intro (bsl_all rfl) ?_; conv => whnf)
    | (refine And.intro (lens_all rfl) ?_; conv => whnf)
    | (refine And.intro (Nat.le_of_ble_eq_true rfl) ?_; conv => whnf)
    | (rw [ints_at (by omega)]; conv => whnf)
    | (rw [ints_at0 (by omega)]; conv => whnf)
    | (rw [ints_at' (by omega) (by omega)]; conv => whnf)
    | (refine And.intro (show (_ + 1) * _ ≤ _ by omega) ?_; conv => whnf)
    | (refine And.intro (show _ + 1 ≤ _ by omega) ?_; conv => whnf)
    | (refine And.intro (by first | omega | (simp only [length_ints]; omega)) ?_; conv => whnf)
    | (rw [str_idx (by omega)]; conv => whnf)
    | (refine ⟨GSLt_mk (b' - 1) 2 (p := q.p + 1) (l := q.l) (by omega) hs (by omega) (by omega) (by simp only [need, rank]; omega) (fun t f1 b2 b3 b4 => ?_)⟩; conv => whnf)
    | (refine And.intro (by have := length_nodeRows t.l; omega) ?_; conv => whnf)
    | fail)
  · have hc : q.c = 0 := by assumption
    obtain ⟨d, rfl⟩ : ∃ d, b' = d + 1 := ⟨b' - 1, by omega⟩
    simp only [Nat.add_sub_cancel] at f1
    have a1' := er1_next a1 hc (by omega) (u8_of 38 rfl (by assumption)) f1 hb
    refine ⟨(d, PR.mk t.p t.c (t.l ++ [NodeD.mk 5 ((q.l.length : Int) - 1) ((t.l.length : Int) - 1)])), ⟨by dsimp only; omega, by dsimp only; omega, b3, by simp only [List.length_append, List.length_cons, List.length_nil]; omega, fun _ => by dsimp only; omega, a1'⟩, by dsimp only; rw [if_pos hc]; split <;> omega, [none, some 3], rfl, rfl, And.intro (And.intro rfl node_app) trivial, ?_⟩
    repeat' (first
      | exact trivial
      | refine ⟨?_, ?_⟩
      | fail)
    all_goals first
      | with_reducible rfl
      | (conv => whnf
         try left
         conv => lhs; whnf
         first
           | rfl
           | exact congrArg (AV.int .i64) (by omega)
           | skip)
    refine congrArg (AV.ref 3 0) ?_
    show t.l.length + 1 = (t.l ++ [_]).length
    simp
  · have hc : q.c = 0 := by assumption
    obtain ⟨d, rfl⟩ : ∃ d, b' = d + 1 := ⟨b' - 1, by omega⟩
    simp only [Nat.add_sub_cancel] at f1
    have a1' := er1_bad a1 hc (by omega) (u8_of 38 rfl (by assumption)) f1 hb
    refine ⟨(d, t), ⟨by dsimp only; omega, by dsimp only; omega, b3, by dsimp only; omega, fun h => absurd h hb, a1'⟩, by dsimp only; rw [if_pos hc, if_neg hb]; omega, [none, some 2], rfl, rfl, And.intro (And.intro rfl rfl) trivial, ?_⟩
    repeat' (first
      | exact trivial
      | refine ⟨?_, ?_⟩
      | fail)
    all_goals first
      | with_reducible rfl
      | (conv => whnf
         try left
         conv => lhs; whnf
         first
           | rfl
           | exact congrArg (AV.int .i64) (by omega)
           | skip)
  all_goals
    have hn : q.c ≠ 0 ∨ isB s q.p 38 = false := by
      first
      | exact .inl (by assumption)
      | exact .inr (isB_neg (.inl (by omega)))
      | exact .inr (isB_neg (.inr (u8_not 38 rfl (by assumption))))
    rw [rd_5n hn] at a1
    refine ⟨.inl rfl, ?_⟩
    conv => whnf
    first
    | exact ⟨[none, some 0], .tup [.ref 1 0 (q.l).length, .int .i64 ((q.p : Nat) : Int), .int .i64 (q.c)], [none, some (.arr 3 (nodeRows (q.l)))], ⟨rfl, And.intro (And.intro rfl (by first | rfl | exact node_app)) trivial⟩, And.intro (by first | rfl | exact congrArg (AV.ref _ 0) (by simp)) (And.intro (.inl rfl) (And.intro (.inl rfl) trivial)), rfl, hq (PR.mk (q.p) (q.c) (q.l)) (a1) (by (try dsimp only at *); omega) (by (try dsimp only at *); omega) (by (try simp only [List.length_append, List.length_cons, List.length_nil] at *); omega)⟩
    | exact ⟨[none, some 1], .tup [.ref 1 0 (q.l).length, .int .i64 ((q.p : Nat) : Int), .int .i64 (q.c)], [none, some (.arr 3 (nodeRows (q.l)))], ⟨rfl, And.intro (And.intro rfl (by first | rfl | exact node_app)) trivial⟩, And.intro (by first | rfl | exact congrArg (AV.ref _ 0) (by simp)) (And.intro (.inl rfl) (And.intro (.inl rfl) trivial)), rfl, hq (PR.mk (q.p) (q.c) (q.l)) (a1) (by (try dsimp only at *); omega) (by (try dsimp only at *); omega) (by (try simp only [List.length_append, List.length_cons, List.length_nil] at *); omega)⟩
    | exact ⟨[none, some 2], .tup [.ref 1 0 (q.l).length, .int .i64 ((q.p : Nat) : Int), .int .i64 (q.c)], [none, some (.arr 3 (nodeRows (q.l)))], ⟨rfl, And.intro (And.intro rfl (by first | rfl | exact node_app)) trivial⟩, And.intro (by first | rfl | exact congrArg (AV.ref _ 0) (by simp)) (And.intro (.inl rfl) (And.intro (.inl rfl) trivial)), rfl, hq (PR.mk (q.p) (q.c) (q.l)) (a1) (by (try dsimp only at *); omega) (by (try dsimp only at *); omega) (by (try simp only [List.length_append, List.length_cons, List.length_nil] at *); omega)⟩
    | exact ⟨[none, some 3], .tup [.ref 1 0 (q.l).length, .int .i64 ((q.p : Nat) : Int), .int .i64 (q.c)], [none, some (.arr 3 (nodeRows (q.l)))], ⟨rfl, And.intro (And.intro rfl (by first | rfl | exact node_app)) trivial⟩, And.intro (by first | rfl | exact congrArg (AV.ref _ 0) (by simp)) (And.intro (.inl rfl) (And.intro (.inl rfl) trivial)), rfl, hq (PR.mk (q.p) (q.c) (q.l)) (a1) (by (try dsimp only at *); omega) (by (try dsimp only at *); omega) (by (try simp only [List.length_append, List.length_cons, List.length_nil] at *); omega)⟩
    | exact ⟨[none, some 4], .tup [.ref 1 0 (q.l).length, .int .i64 ((q.p : Nat) : Int), .int .i64 (q.c)], [none, some (.arr 3 (nodeRows (q.l)))], ⟨rfl, And.intro (And.intro rfl (by first | rfl | exact node_app)) trivial⟩, And.intro (by first | rfl | exact congrArg (AV.ref _ 0) (by simp)) (And.intro (.inl rfl) (And.intro (.inl rfl) trivial)), rfl, hq (PR.mk (q.p) (q.c) (q.l)) (a1) (by (try dsimp only at *); omega) (by (try dsimp only at *); omega) (by (try simp only [List.length_append, List.length_cons, List.length_nil] at *); omega)⟩


theorem splitAt {P : Program} {N k : Nat} {K : XK} {e : Env} {h : Heap} {n : Nat} {Γ : Ctx} (hR : Rely P Γ) (i : Nat) {l : List IOper} (hk : regK2 Γ (l.take i) e h n (fun e' h' n' => ∃ σ L os, CovN σ e' h' L os k ∧ regK2 Γ (l.drop i) (envL L) (objsO os) os.length (K .normal))) : Aw P N k (.reg l) K e h n := by
  have h1 : Aw P N k (.reg (l.take i ++ l.drop i)) K e h n := Aw.split hR (by rw [← regK2_eq]; simpa only [regK2_eq] using hk)
  rwa [List.take_append_drop] at h1

theorem gs_all : ∀ b, GenSound Try.prog 154 1 (GA b) ∧ ∀ m, m ≤ 3 → GenSound Try.prog 107 1 (GS b m) := by
  intro b
  induction b using Nat.strongRecOn with
  | _ b ih =>
    cases b with
    | zero =>
      refine ⟨?_, ?_⟩
      · rintro w own0 π objs xs vs Q hl hs hr ⟨s, p, l, rfl, rfl, h1, h2, h3, h4, hq⟩
        simp only [need, rank] at h4
        omega
      · rintro m hm w own0 π objs xs vs Q hl hs hr ⟨s, p, l, rfl, rfl, h1, h2, h3, h4, hq⟩
        have : 1 ≤ rank m := by unfold rank; split <;> omega
        unfold need at h4
        omega
    | succ b =>
      have hlt : GenSound Try.prog 107 1 (GSLt (b + 1)) := fun w own0 π objs xs vs Q hl hs hr ⟨b', m, hb, hm, hg⟩ => (ih b' hb).2 m hm w own0 π objs xs vs Q hl hs hr hg
      have ha := s_l8Atom (ih b (Nat.lt_succ_self b)).1 hlt
      refine ⟨ha, fun m hm => ?_⟩
      have : m = 0 ∨ m = 1 ∨ m = 2 ∨ m = 3 := by omega
      rcases this with rfl | rfl | rfl | rfl
      · exact gs_row0 hlt
      · exact gs_row1 hlt
      · exact gs_term hlt
      · exact gs_atom ha

def GS0 : GFun := GSLt 1608
theorem s_GS0 : GenSound Try.prog 107 1 GS0 := fun w own0 π objs xs vs Q hl hs hr ⟨b', m, hb, hm, hg⟩ => (gs_all b').2 m hm w own0 π objs xs vs Q hl hs hr hg

set_option maxHeartbeats 4000000 in
theorem s_spec_LtlParse : PureSound Try.prog 45 RLtlParse := by
  have hR : Rely Try.prog (ctxOf [(107, .gen 1 GS0)]) := rely_cons b_spec_l8Read.has s_GS0 (rely_nil mixed)
  refine pure_of_aw b_spec_LtlParse ?_
  rintro xs r objs ⟨s, rfl, rfl, rfl⟩ -
  refine ⟨by simp, ?_⟩
  refine Aw.meet (α := Unit) (fun _ => True) (fun _ => [(0, .str s)]) (fun _ => []) ?_ ?_
  · refine vc2_sound hR _ _ _ _ _ ?_
    conv => whnf
    repeat' (first
      | (refine And.intro (fun hb => ?_) (fun hb => ?_)
         all_goals (try simp only [decide_eq_true_eq, decide_eq_false_iff_not, Bool.not_eq_true', Bool.not_eq_false', Bool.not_not, ne_eq, length_ints, List.length_map, beq_iff_eq, bne_iff_ne, beq_eq_false_iff_ne, bne_eq_false_iff_eq, Int.not_le, Int.not_lt, ge_iff_le, gt_iff_lt, reduceCtorEq, not_false_eq_true, not_true_eq_false, Bool.false_eq_true, Bool.true_eq_false] at hb)
         all_goals (try (exfalso; omega))
         all_goals conv => whnf)
      | (refine And.intro (live_all rfl) ?_; conv => whnf)
      | (refine And.intro rfl ?_; conv => whnf)
      | (refine ⟨_, IntWalk.i64_in _ (by omega), ?_⟩; conv => whnf)
      | (refine And.intro (okcs_all rfl) ?_; conv => whnf)
      | (refine And.intro (okvs_all rfl) ?_; conv => whnf)
      | (refine And.intro (frees_all rfl) ?_; conv => whnf)
      | (refine And.intro (bsl_all rfl) ?_; conv => whnf)
      | (refine And.intro (lens_all rfl) ?_; conv => whnf)
      | (refine And.intro (Nat.le_of_ble_eq_true rfl) ?_; conv => whnf)
      | (rw [ints_at (by omega)]; conv => whnf)
      | (rw [ints_at0 (by omega)]; conv => whnf)
      | (rw [ints_at' (by omega) (by omega)]; conv => whnf)
      | (refine And.intro (show (_ + 1) * _ ≤ _ by omega) ?_; conv => whnf)
      | (refine And.intro (show _ + 1 ≤ _ by omega) ?_; conv => whnf)
      | (refine And.intro (by first | omega | (simp only [length_ints]; omega)) ?_; conv => whnf)
      | fail)
    refine ⟨(), trivial, [], rfl, rfl, trivial, ?_⟩
    repeat' (first
      | exact trivial
      | refine ⟨?_, ?_⟩
      | fail)
    all_goals first
      | with_reducible rfl
      | (conv => whnf
         try left
         conv => lhs; whnf
         first
           | rfl
           | exact congrArg (AV.int .i64) (by omega)
           | skip)
  rintro _ -
  refine Aw.meet (α := Unit) (fun _ => s.length ≤ 200) (fun _ => [(0, .str s)]) (fun _ => []) ?_ ?_
  · refine vc2_sound hR _ _ _ _ _ ?_
    conv => whnf
    repeat' (first
      | (refine And.intro (fun hb => ?_) (fun hb => ?_)
         all_goals (try simp only [decide_eq_true_eq, decide_eq_false_iff_not, Bool.not_eq_true', Bool.not_eq_false', Bool.not_not, ne_eq, length_ints, List.length_map, beq_iff_eq, bne_iff_ne, beq_eq_false_iff_ne, bne_eq_false_iff_eq, Int.not_le, Int.not_lt, ge_iff_le, gt_iff_lt, reduceCtorEq, not_false_eq_true, not_true_eq_false, Bool.false_eq_true, Bool.true_eq_false] at hb)
         all_goals (try (exfalso; omega))
         all_goals conv => whnf)
      | (refine And.intro (live_all rfl) ?_; conv => whnf)
      | (refine And.intro rfl ?_; conv => whnf)
      | (refine ⟨_, IntWalk.i64_in _ (by omega), ?_⟩; conv => whnf)
      | (refine And.intro (okcs_all rfl) ?_; conv => whnf)
      | (refine And.intro (okvs_all rfl) ?_; conv => whnf)
      | (refine And.intro (frees_all rfl) ?_; conv => whnf)
      | (refine And.intro (bsl_all rfl) ?_; conv => whnf)
      | (refine And.intro (lens_all rfl) ?_; conv => whnf)
      | (refine And.intro (Nat.le_of_ble_eq_true rfl) ?_; conv => whnf)
      | (rw [ints_at (by omega)]; conv => whnf)
      | (rw [ints_at0 (by omega)]; conv => whnf)
      | (rw [ints_at' (by omega) (by omega)]; conv => whnf)
      | (refine And.intro (show (_ + 1) * _ ≤ _ by omega) ?_; conv => whnf)
      | (refine And.intro (show _ + 1 ≤ _ by omega) ?_; conv => whnf)
      | (refine And.intro (by first | omega | (simp only [length_ints]; omega)) ?_; conv => whnf)
      | fail)
    · have e : parseL s = ⟨0, 1, []⟩ := by unfold parseL; rw [if_pos (by omega)]
      rw [e]
      refine ⟨.inl rfl, ?_⟩
      conv => whnf
      refine ⟨[], ⟨rfl, trivial⟩, ?_, rfl, rfl⟩
      repeat' (first | exact trivial | refine And.intro ?_ ?_)
      all_goals
        conv => whnf
        left
        conv => lhs; whnf
      all_goals rfl
    · refine ⟨(), by omega, [], rfl, rfl, trivial, ?_⟩
      repeat' (first
        | exact trivial
        | refine ⟨?_, ?_⟩
        | fail)
      all_goals first
        | with_reducible rfl
        | (conv => whnf
           try left
           conv => lhs; whnf
           first
             | rfl
             | exact congrArg (AV.int .i64) (by omega)
             | skip)
  rintro _ hs
  refine Aw.meet (α := PR) (fun q => q = rd s 1607 0 ⟨0, 0, []⟩ ∧ q.p ≤ s.length ∧ q.l.length ≤ q.p) (fun q => [(0, .str s), (5, .ref 1 0 q.l.length), (6, .int .i64 q.p), (7, .int .i64 q.c)]) (fun q => [none, some (.arr 3 (nodeRows q.l))]) ?_ ?_
  · refine splitAt hR 2 ?_
    conv => whnf
    repeat' (first
      | (refine And.intro (fun hb => ?_) (fun hb => ?_)
         all_goals (try simp only [decide_eq_true_eq, decide_eq_false_iff_not, Bool.not_eq_true', Bool.not_eq_false', Bool.not_not, ne_eq, length_ints, List.length_map, beq_iff_eq, bne_iff_ne, beq_eq_false_iff_ne, bne_eq_false_iff_eq, Int.not_le, Int.not_lt, ge_iff_le, gt_iff_lt, reduceCtorEq, not_false_eq_true, not_true_eq_false, Bool.false_eq_true, Bool.true_eq_false] at hb)
         all_goals (try (exfalso; omega))
         all_goals conv => whnf)
      | (refine And.intro (live_all rfl) ?_; conv => whnf)
      | (refine And.intro rfl ?_; conv => whnf)
      | (refine ⟨_, IntWalk.i64_in _ (by omega), ?_⟩; conv => whnf)
      | (refine And.intro (okcs_all rfl) ?_; conv => whnf)
      | (refine And.intro (okvs_all rfl) ?_; conv => whnf)
      | (refine And.intro (frees_all rfl) ?_; conv => whnf)
      | (refine And.intro (bsl_all rfl) ?_; conv => whnf)
      | (refine And.intro (lens_all rfl) ?_; conv => whnf)
      | (refine And.intro (Nat.le_of_ble_eq_true rfl) ?_; conv => whnf)
      | (rw [ints_at (by omega)]; conv => whnf)
      | (rw [ints_at0 (by omega)]; conv => whnf)
      | (rw [ints_at' (by omega) (by omega)]; conv => whnf)
      | (refine And.intro (show (_ + 1) * _ ≤ _ by omega) ?_; conv => whnf)
      | (refine And.intro (show _ + 1 ≤ _ by omega) ?_; conv => whnf)
      | (refine And.intro (by first | omega | (simp only [length_ints]; omega)) ?_; conv => whnf)
      | fail)
    refine ⟨[none], [(0, .str s), (13, .str s), (14, .ref 0 0 0)], [some (.arr 3 [])], ⟨rfl, rfl, And.intro rfl trivial, ?_⟩, ?_⟩
    · repeat' (first
        | exact trivial
        | refine ⟨?_, ?_⟩
        | fail)
      all_goals first
        | with_reducible rfl
        | (conv => whnf
           try left
           conv => lhs; whnf
           first
             | rfl
             | exact congrArg (AV.int .i64) (by omega)
             | skip)
    conv => whnf
    repeat' (first
      | (refine And.intro (fun hb => ?_) (fun hb => ?_)
         all_goals (try simp only [decide_eq_true_eq, decide_eq_false_iff_not, Bool.not_eq_true', Bool.not_eq_false', Bool.not_not, ne_eq, length_ints, List.length_map, beq_iff_eq, bne_iff_ne, beq_eq_false_iff_ne, bne_eq_false_iff_eq, Int.not_le, Int.not_lt, ge_iff_le, gt_iff_lt, reduceCtorEq, not_false_eq_true, not_true_eq_false, Bool.false_eq_true, Bool.true_eq_false] at hb)
         all_goals (try (exfalso; omega))
         all_goals conv => whnf)
      | (refine And.intro (live_all rfl) ?_; conv => whnf)
      | (refine And.intro rfl ?_; conv => whnf)
      | (refine ⟨_, IntWalk.i64_in _ (by omega), ?_⟩; conv => whnf)
      | (refine And.intro (okcs_all rfl) ?_; conv => whnf)
      | (refine And.intro (okvs_all rfl) ?_; conv => whnf)
      | (refine And.intro (frees_all rfl) ?_; conv => whnf)
      | (refine And.intro (bsl_all rfl) ?_; conv => whnf)
      | (refine And.intro (lens_all rfl) ?_; conv => whnf)
      | (refine And.intro (Nat.le_of_ble_eq_true rfl) ?_; conv => whnf)
      | (rw [ints_at (by omega)]; conv => whnf)
      | (rw [ints_at0 (by omega)]; conv => whnf)
      | (rw [ints_at' (by omega) (by omega)]; conv => whnf)
      | (refine And.intro (show (_ + 1) * _ ≤ _ by omega) ?_; conv => whnf)
      | (refine And.intro (show _ + 1 ≤ _ by omega) ?_; conv => whnf)
      | (refine And.intro (by first | omega | (simp only [length_ints]; omega)) ?_; conv => whnf)
      | (refine ⟨GSLt_mk 1607 0 (p := 0) (l := []) (by omega) hs (Nat.zero_le _) (Nat.le_refl _) (by simp only [need, rank]; omega) (fun q e1 a2 a3 a4 => ?_)⟩; conv => whnf)
      | fail)
    refine ⟨q, ⟨e1, a3, by simp at a4; omega⟩, [none, some 1], rfl, rfl, And.intro (And.intro rfl rfl) trivial, ?_⟩
    repeat' (first
      | exact trivial
      | refine ⟨?_, ?_⟩
      | fail)
    all_goals first
      | with_reducible rfl
      | (conv => whnf
         try left
         conv => lhs; whnf
         first
           | rfl
           | exact congrArg (AV.int .i64) (by omega)
           | skip)
  rintro q ⟨e1, a3, a4⟩
  refine vc2_sound hR _ _ _ _ _ ?_
  conv => whnf
  repeat' (first
    | (refine And.intro (fun hb => ?_) (fun hb => ?_)
       all_goals (try simp only [decide_eq_true_eq, decide_eq_false_iff_not, Bool.not_eq_true', Bool.not_eq_false', Bool.not_not, ne_eq, length_ints, List.length_map, beq_iff_eq, bne_iff_ne, beq_eq_false_iff_ne, bne_eq_false_iff_eq, Int.not_le, Int.not_lt, ge_iff_le, gt_iff_lt, reduceCtorEq, not_false_eq_true, not_true_eq_false, Bool.false_eq_true, Bool.true_eq_false] at hb)
       all_goals (try (exfalso; omega))
       all_goals conv => whnf)
    | (refine And.intro (live_all rfl) ?_; conv => whnf)
    | (refine And.intro rfl ?_; conv => whnf)
    | (refine ⟨_, IntWalk.i64_in _ (by omega), ?_⟩; conv => whnf)
    | (refine And.intro (okcs_all rfl) ?_; conv => whnf)
    | (refine And.intro (okvs_all rfl) ?_; conv => whnf)
    | (refine And.intro (frees_all rfl) ?_; conv => whnf)
    | (refine And.intro (bsl_all rfl) ?_; conv => whnf)
    | (refine And.intro (lens_all rfl) ?_; conv => whnf)
    | (refine And.intro (Nat.le_of_ble_eq_true rfl) ?_; conv => whnf)
    | (rw [ints_at (by omega)]; conv => whnf)
    | (rw [ints_at0 (by omega)]; conv => whnf)
    | (rw [ints_at' (by omega) (by omega)]; conv => whnf)
    | (refine And.intro (show (_ + 1) * _ ≤ _ by omega) ?_; conv => whnf)
    | (refine And.intro (show _ + 1 ≤ _ by omega) ?_; conv => whnf)
    | (refine And.intro (by first | omega | (simp only [length_ints]; omega)) ?_; conv => whnf)
    | fail)
  · have e : parseL s = ⟨q.p, q.c, []⟩ := by
      unfold parseL
      rw [if_neg (by omega)]
      dsimp only
      rw [← e1, if_pos hb]
    rw [e]
    unfold parseR parseO
    dsimp only
    rw [if_neg hb, if_neg hb]
    refine ⟨.inl rfl, ?_⟩
    conv => whnf
    refine ⟨[], ⟨rfl, trivial⟩, ?_, rfl, rfl⟩
    repeat' (first | exact trivial | refine And.intro ?_ ?_)
    all_goals
      conv => whnf
      left
      conv => lhs; whnf
    all_goals rfl
  · have e : parseL s = ⟨q.p, 5, []⟩ := by
      unfold parseL
      rw [if_neg (by omega), ← e1]
      dsimp only
      rw [if_neg (by omega), if_pos (by omega)]
    rw [e]
    refine ⟨.inl rfl, ?_⟩
    conv => whnf
    refine ⟨[], ⟨rfl, trivial⟩, ?_, rfl, rfl⟩
    repeat' (first | exact trivial | refine And.intro ?_ ?_)
    all_goals
      conv => whnf
      left
      conv => lhs; whnf
    all_goals rfl
  · have e : parseL s = ⟨0, 4, []⟩ := by
      unfold parseL
      rw [if_neg (by omega), ← e1]
      dsimp only
      rw [if_neg (by omega), if_neg (by omega), if_pos (by omega)]
    rw [e]
    refine ⟨.inl rfl, ?_⟩
    conv => whnf
    refine ⟨[], ⟨rfl, trivial⟩, ?_, rfl, rfl⟩
    repeat' (first | exact trivial | refine And.intro ?_ ?_)
    all_goals
      conv => whnf
      left
      conv => lhs; whnf
    all_goals rfl
  · have e : parseL s = ⟨s.length, 0, q.l⟩ := by
      unfold parseL
      rw [if_neg (by omega), ← e1]
      dsimp only
      rw [if_neg (by omega), if_neg (by omega), if_neg (by omega)]
    rw [e]
    refine ⟨.inl rfl, ?_⟩
    conv => whnf
    refine ⟨[some 1], ⟨rfl, And.intro (And.intro rfl rfl) trivial⟩, And.intro rfl (And.intro (.inl rfl) (And.intro (.inl rfl) trivial)), rfl, by simp [parseO, AObj.nov, nodeRows_nov]⟩

end Go.Proofs.Ytpfbkblgefddlaa.Ct

