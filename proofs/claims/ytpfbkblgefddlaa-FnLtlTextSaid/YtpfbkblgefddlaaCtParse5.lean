/- Formulas read from text: rows of parts, and all of the program's reading. -/
import Derived.Test.YtpfbkblgefddlaaCtParse4
namespace Go.Proofs.Ytpfbkblgefddlaa.Ct
set_option linter.unusedSimpArgs false
set_option linter.unusedVariables false
open Go Go.Proofs Go.Proofs.Ytpfbkblgefddlaa.Av

theorem PR.sim_trans {q r t : PR} (h1 : q.sim r) (h2 : r.sim t) : q.sim t := ⟨h1.1.trans h2.1, h1.2.1.trans h2.2.1, fun hc => (h1.2.2 hc).trans (h2.2.2 (h1.2.1 ▸ hc))⟩
theorem rd_sim {s : List UInt8} {b m : Nat} {q r : PR} (h : q.sim r) : (rd s b m q).sim (rd s b m r) := by
  by_cases hc : q.c = 0
  · rw [PR.sim_eq h hc]; exact PR.sim_refl _
  · rw [rd_err hc, rd_err (by rw [← h.2.1]; exact hc)]
    exact h

def GRow0 (b : Nat) : GFun := GRdOf [.int .u8 124, .int .i64 6, .fn 150 []] (fits 0 b) (fun s r => rd s b 0 r)

set_option maxHeartbeats 4000000 in
theorem s_row0 {b : Nat} (h : ∀ b', b' < b + 1 → GenSound Try.prog 150 2 (GRd b' 1)) : GenSound Try.prog 149 2 (GRow0 (b + 1)) := by
  have hR : Rely Try.prog (ctxOf [(185, .gen 2 GSkip), (150, .gen 2 (GLt (b + 1) 1)), (186, .gen 2 GTwo)]) :=
    rely_cons b_impl_reader_skip.has s_impl_skip (rely_cons b_impl_ltlProduct.has (lt_sound h) (rely_cons b_impl_reader_two.has s_impl_read_two (rely_nil mixed)))
  refine gen_of_aw b_impl_reader_row ?_
  rintro xs objs Q - ⟨s, r, rfl, rfl, hs, hp, hl, hf, hq⟩ -
  simp only [fits, need, rank] at hf
  refine ⟨by simp, vc2_sound hR _ _ _ _ _ ?_⟩
  conv => whnf
  repeat' (first
    | (refine And.intro (fun hb => ?_) (fun hb => ?_)
       all_goals (try simp only [decide_eq_true_eq, decide_eq_false_iff_not, Bool.not_eq_true', Bool.not_eq_false', Bool.not_not, ne_eq, length_ints, List.length_map, beq_iff_eq, bne_iff_ne, beq_eq_false_iff_ne, bne_eq_false_iff_eq, Int.not_le, Int.not_lt, ge_iff_le, gt_iff_lt, reduceCtorEq, not_false_eq_true, not_true_eq_false, Bool.false_eq_true, Bool.true_eq_false] at hb)
       all_goals (try (exfalso; omega))
       all_goals conv => whnf)
    | (refine And.intro (live_all rfl) ?_; conv => whnf)
    | (refine And.intro rfl ?_; conv => whnf)
    | (refine ⟨_, IntWalk.i64_in _ (by omega), ?_⟩; conv => whnf)
    | (refine And.intro (okcs_all rfl) ?_; conv => whnf)
    | (refine And.intro (okvs_all rfl) ?_; conv => whnf)
    | (refine And.intro (frees_all rfl) ?_; conv => whnf)
    | (refine And.intro (bsl_all rfl) ?_; conv => whnf)
    | (refine And.intro (lens_all rfl) ?_; conv => whnf)
    | (refine And.intro (Nat.le_of_ble_eq_true rfl) ?_; conv => whnf)
    | (rw [ints_at (by omega)]; conv => whnf)
    | (rw [ints_at0 (by omega)]; conv => whnf)
    | (rw [ints_at' (by omega) (by omega)]; conv => whnf)
    | (refine And.intro (show (_ + 1) * _ ≤ _ by omega) ?_; conv => whnf)
    | (refine And.intro (show _ + 1 ≤ _ by omega) ?_; conv => whnf)
    | (refine And.intro (by first | omega | (simp only [length_ints]; omega)) ?_; conv => whnf)
    | (refine ⟨GLt_mk b r (by omega) (by omega) (by omega) (by omega) (by simp only [fits, need, rank]; omega) (fun q a1 a2 a3 a4 => ?_)⟩; conv => whnf)
    | fail)
  refine Lp.intro (α := Nat × PR) (fun a => a.1 ≤ b ∧ r.p ≤ a.2.p ∧ a.2.p ≤ s.length ∧ a.2.l.length + r.p ≤ r.l.length + a.2.p ∧ (a.2.c = 0 → 8 * (s.length - a.2.p) + 1 ≤ a.1) ∧ (rd s a.1 4 a.2).sim (rd s (b + 1) 0 r)) (fun a => if a.2.c = 0 then s.length + 1 - a.2.p else 0)
    (fun _ => [(0, .ptr 0 0 0), (1, .int .u8 124), (2, .int .i64 6), (3, .fn 150 [])]) (fun a => [some (rdO s a.2.p a.2.c 2 a.2.l.length), none, some (.arr 3 (nodeRows a.2.l))]) ?_ ?_
  · have hc0 := rd_c0 a1
    refine ⟨(b, q), ⟨Nat.le_refl _, a2, a3, a4, fun hc => by dsimp only at hc ⊢; have := hc0 hc; omega, by rw [rd_0]; exact rd_sim a1⟩, [some 0, none, some 2], rfl, rfl, And.intro (And.intro (.inl rfl) (And.intro (.inl rfl) (And.intro (.inl rfl) (And.intro rfl (And.intro (.inl rfl) trivial))))) (And.intro (And.intro rfl rfl) trivial), ?_⟩
    repeat' (first
      | exact trivial
      | refine ⟨?_, ?_⟩
      | fail)
    all_goals first
      | with_reducible rfl
      | (conv => whnf
         try left
         conv => lhs; whnf
         first
           | rfl
           | exact congrArg (AV.int .i64) (by omega)
           | skip)
  clear a1 a2 a3 a4 q
  rintro ⟨b', q⟩ ⟨hb', a2, a3, a4, a5, a1⟩
  dsimp only at hb' a2 a3 a4 a5 a1 ⊢
  refine vc2_sound hR _ _ _ _ _ ?_
  conv => whnf
  repeat' (first
    | (refine And.intro (fun hb => ?_) (fun hb => ?_)
       all_goals (try simp only [decide_eq_true_eq, decide_eq_false_iff_not, Bool.not_eq_true', Bool.not_eq_false', Bool.not_not, ne_eq, length_ints, List.length_map, beq_iff_eq, bne_iff_ne, beq_eq_false_iff_ne, bne_eq_false_iff_eq, Int.not_le, Int.not_lt, ge_iff_le, gt_iff_lt, reduceCtorEq, not_false_eq_true, not_true_eq_false, Bool.false_eq_true, Bool.true_eq_false] at hb)
       all_goals (try (exfalso; omega))
       all_goals conv => whnf)
    | (refine And.intro (live_all rfl) ?_; conv => whnf)
    | (refine And.intro rfl ?_; conv => whnf)
    | (refine ⟨_, IntWalk.i64_in _ (by omega), ?_⟩; conv => whnf)
    | (refine And.intro (okcs_all rfl) ?_; conv => whnf)
    | (refine And.intro (okvs_all rfl) ?_; conv => whnf)
    | (refine And.intro (frees_all rfl) ?_; conv => whnf)
    | (refine And.intro (bsl_all rfl) ?_; conv => whnf)
    | (refine And.intro (lens_all rfl) ?_; conv => whnf)
    | (refine And.intro (Nat.le_of_ble_eq_true rfl) ?_; conv => whnf)
    | (rw [ints_at (by omega)]; conv => whnf)
    | (rw [ints_at0 (by omega)]; conv => whnf)
    | (rw [ints_at' (by omega) (by omega)]; conv => whnf)
    | (refine And.intro (show (_ + 1) * _ ≤ _ by omega) ?_; conv => whnf)
    | (refine And.intro (show _ + 1 ≤ _ by omega) ?_; conv => whnf)
    | (refine And.intro (by first | omega | (simp only [length_ints]; omega)) ?_; conv => whnf)
    | (refine ⟨GSkip_mk 124 (by (try dsimp only); omega) (by omega) (by rw [length_nodeRows]; exact Nat.le_refl _) (fun hc h124 hlt => ?_) (fun n124 => ?_)⟩; all_goals conv => whnf)
    | (refine ⟨GLt_mk (b' - 1) ⟨q.p + 1, q.c, q.l⟩ (by omega) (by omega) (by (try dsimp only); omega) (by (try dsimp only); omega) (by simp only [fits, need, rank]; omega) (fun t b1 b2 b3 b4 => ?_)⟩; conv => whnf)
    | (refine ⟨GTwo_mk (by (try dsimp only at *); omega) ?_⟩; conv => whnf)
    | fail)
  · obtain ⟨d, rfl⟩ : ∃ d, b' = d + 1 := ⟨b' - 1, by omega⟩
    rw [rd_4 hc h124] at a1
    simp only [Nat.add_sub_cancel] at b1
    have hc1 := rd_c0 b1
    dsimp only at b2 b3 b4
    refine ⟨(d, PR.mk t.p t.c (t.l ++ [NodeD.mk 6 ((q.l.length : Int) - 1) ((t.l.length : Int) - 1)])), ⟨by dsimp only; omega, by dsimp only; omega, b3, by simp only [List.length_append, List.length_cons, List.length_nil]; omega, fun _ => by dsimp only; omega, PR.sim_trans (rd_sim (PR.sim_two b1)) a1⟩, by dsimp only; rw [if_pos hc]; split <;> omega, [some 0, none, some 4], rfl, rfl, And.intro (And.intro (.inl rfl) (And.intro (.inl rfl) (And.intro (.inl rfl) (And.intro rfl (And.intro (.inl rfl) trivial))))) (And.intro (And.intro rfl rfl) trivial), ?_⟩
    repeat' (first
      | exact trivial
      | refine ⟨?_, ?_⟩
      | fail)
    all_goals first
      | with_reducible rfl
      | (conv => whnf
         try left
         conv => lhs; whnf
         first
           | rfl
           | exact congrArg (AV.int .i64) (by omega)
           | skip)
  · rw [rd_4n n124] at a1
    refine ⟨by first | exact .inr rfl | exact .inl rfl, ?_⟩
    conv => whnf
    first
    | exact ⟨[some 0, none, some 1], .tup [], [some (rdO s (q.p) (q.c) 2 (q.l).length), none, some (.arr 3 (nodeRows (q.l)))], ⟨rfl, And.intro (And.intro (.inl rfl) (And.intro (.inl rfl) (And.intro (.inl rfl) (And.intro rfl (And.intro (.inl rfl) trivial))))) (And.intro (And.intro rfl rfl) trivial)⟩, trivial, rfl, hq (PR.mk (q.p) (q.c) (q.l)) (a1) (by (try dsimp only at *); omega) (by (try dsimp only at *); omega) (by simp only [List.length_append, List.length_cons, List.length_nil] at *; omega)⟩
    | exact ⟨[some 0, none, some 2], .tup [], [some (rdO s (q.p) (q.c) 2 (q.l).length), none, some (.arr 3 (nodeRows (q.l)))], ⟨rfl, And.intro (And.intro (.inl rfl) (And.intro (.inl rfl) (And.intro (.inl rfl) (And.intro rfl (And.intro (.inl rfl) trivial))))) (And.intro (And.intro rfl rfl) trivial)⟩, trivial, rfl, hq (PR.mk (q.p) (q.c) (q.l)) (a1) (by (try dsimp only at *); omega) (by (try dsimp only at *); omega) (by simp only [List.length_append, List.length_cons, List.length_nil] at *; omega)⟩
    | exact ⟨[some 0, none, some 3], .tup [], [some (rdO s (q.p) (q.c) 2 (q.l).length), none, some (.arr 3 (nodeRows (q.l)))], ⟨rfl, And.intro (And.intro (.inl rfl) (And.intro (.inl rfl) (And.intro (.inl rfl) (And.intro rfl (And.intro (.inl rfl) trivial))))) (And.intro (And.intro rfl rfl) trivial)⟩, trivial, rfl, hq (PR.mk (q.p) (q.c) (q.l)) (a1) (by (try dsimp only at *); omega) (by (try dsimp only at *); omega) (by simp only [List.length_append, List.length_cons, List.length_nil] at *; omega)⟩
    | exact ⟨[some 0, none, some 4], .tup [], [some (rdO s (q.p) (q.c) 2 (q.l).length), none, some (.arr 3 (nodeRows (q.l)))], ⟨rfl, And.intro (And.intro (.inl rfl) (And.intro (.inl rfl) (And.intro (.inl rfl) (And.intro rfl (And.intro (.inl rfl) trivial))))) (And.intro (And.intro rfl rfl) trivial)⟩, trivial, rfl, hq (PR.mk (q.p) (q.c) (q.l)) (a1) (by (try dsimp only at *); omega) (by (try dsimp only at *); omega) (by simp only [List.length_append, List.length_cons, List.length_nil] at *; omega)⟩
    | exact ⟨[some 0, none, some 5], .tup [], [some (rdO s (q.p) (q.c) 2 (q.l).length), none, some (.arr 3 (nodeRows (q.l)))], ⟨rfl, And.intro (And.intro (.inl rfl) (And.intro (.inl rfl) (And.intro (.inl rfl) (And.intro rfl (And.intro (.inl rfl) trivial))))) (And.intro (And.intro rfl rfl) trivial)⟩, trivial, rfl, hq (PR.mk (q.p) (q.c) (q.l)) (a1) (by (try dsimp only at *); omega) (by (try dsimp only at *); omega) (by simp only [List.length_append, List.length_cons, List.length_nil] at *; omega)⟩

def GRow1 (b : Nat) : GFun := GRdOf [.int .u8 38, .int .i64 5, .fn 187 []] (fits 1 b) (fun s r => rd s b 1 r)

set_option maxHeartbeats 4000000 in
theorem s_row1 {b : Nat} (h : ∀ b', b' < b + 1 → GenSound Try.prog 187 2 (GRd b' 2)) : GenSound Try.prog 149 2 (GRow1 (b + 1)) := by
  have hR : Rely Try.prog (ctxOf [(185, .gen 2 GSkip), (187, .gen 2 (GLt (b + 1) 2)), (186, .gen 2 GTwo)]) :=
    rely_cons b_impl_reader_skip.has s_impl_skip (rely_cons b_impl_ltlTerm.has (lt_sound h) (rely_cons b_impl_reader_two.has s_impl_read_two (rely_nil mixed)))
  refine gen_of_aw b_impl_reader_row ?_
  rintro xs objs Q - ⟨s, r, rfl, rfl, hs, hp, hl, hf, hq⟩ -
  simp only [fits, need, rank] at hf
  refine ⟨by simp, vc2_sound hR _ _ _ _ _ ?_⟩
  conv => whnf
  repeat' (first
    | (refine And.intro (fun hb => ?_) (fun hb => ?_)
       all_goals (try simp only [decide_eq_true_eq, decide_eq_false_iff_not, Bool.not_eq_true', Bool.not_eq_false', Bool.not_not, ne_eq, length_ints, List.length_map, beq_iff_eq, bne_iff_ne, beq_eq_false_iff_ne, bne_eq_false_iff_eq, Int.not_le, Int.not_lt, ge_iff_le, gt_iff_lt, reduceCtorEq, not_false_eq_true, not_true_eq_false, Bool.false_eq_true, Bool.true_eq_false] at hb)
       all_goals (try (exfalso; omega))
       all_goals conv => whnf)
    | (refine And.intro (live_all rfl) ?_; conv => whnf)
    | (refine And.intro rfl ?_; conv => whnf)
    | (refine ⟨_, IntWalk.i64_in _ (by omega), ?_⟩; conv => whnf)
    | (refine And.intro (okcs_all rfl) ?_; conv => whnf)
    | (refine And.intro (okvs_all rfl) ?_; conv => whnf)
    | (refine And.intro (frees_all rfl) ?_; conv => whnf)
    | (refine And.intro (bsl_all rfl) ?_; conv => whnf)
    | (refine And.intro (lens_all rfl) ?_; conv => whnf)
    | (refine And.intro (Nat.le_of_ble_eq_true rfl) ?_; conv => whnf)
    | (rw [ints_at (by omega)]; conv => whnf)
    | (rw [ints_at0 (by omega)]; conv => whnf)
    | (rw [ints_at' (by omega) (by omega)]; conv => whnf)
    | (refine And.intro (show (_ + 1) * _ ≤ _ by omega) ?_; conv => whnf)
    | (refine And.intro (show _ + 1 ≤ _ by omega) ?_; conv => whnf)
    | (refine And.intro (by first | omega | (simp only [length_ints]; omega)) ?_; conv => whnf)
    | (refine ⟨GLt_mk b r (by omega) (by omega) (by omega) (by omega) (by simp only [fits, need, rank]; omega) (fun q a1 a2 a3 a4 => ?_)⟩; conv => whnf)
    | fail)
  refine Lp.intro (α := Nat × PR) (fun a => a.1 ≤ b ∧ r.p ≤ a.2.p ∧ a.2.p ≤ s.length ∧ a.2.l.length + r.p ≤ r.l.length + a.2.p ∧ (a.2.c = 0 → 8 * (s.length - a.2.p) + 1 ≤ a.1) ∧ (rd s a.1 5 a.2).sim (rd s (b + 1) 1 r)) (fun a => if a.2.c = 0 then s.length + 1 - a.2.p else 0)
    (fun _ => [(0, .ptr 0 0 0), (1, .int .u8 38), (2, .int .i64 5), (3, .fn 187 [])]) (fun a => [some (rdO s a.2.p a.2.c 2 a.2.l.length), none, some (.arr 3 (nodeRows a.2.l))]) ?_ ?_
  · have hc0 := rd_c0 a1
    refine ⟨(b, q), ⟨Nat.le_refl _, a2, a3, a4, fun hc => by dsimp only at hc ⊢; have := hc0 hc; omega, by rw [rd_1]; exact rd_sim a1⟩, [some 0, none, some 2], rfl, rfl, And.intro (And.intro (.inl rfl) (And.intro (.inl rfl) (And.intro (.inl rfl) (And.intro rfl (And.intro (.inl rfl) trivial))))) (And.intro (And.intro rfl rfl) trivial), ?_⟩
    repeat' (first
      | exact trivial
      | refine ⟨?_, ?_⟩
      | fail)
    all_goals first
      | with_reducible rfl
      | (conv => whnf
         try left
         conv => lhs; whnf
         first
           | rfl
           | exact congrArg (AV.int .i64) (by omega)
           | skip)
  clear a1 a2 a3 a4 q
  rintro ⟨b', q⟩ ⟨hb', a2, a3, a4, a5, a1⟩
  dsimp only at hb' a2 a3 a4 a5 a1 ⊢
  refine vc2_sound hR _ _ _ _ _ ?_
  conv => whnf
  repeat' (first
    | (refine And.intro (fun hb => ?_) (fun hb => ?_)
       all_goals (try simp only [decide_eq_true_eq, decide_eq_false_iff_not, Bool.not_eq_true', Bool.not_eq_false', Bool.not_not, ne_eq, length_ints, List.length_map, beq_iff_eq, bne_iff_ne, beq_eq_false_iff_ne, bne_eq_false_iff_eq, Int.not_le, Int.not_lt, ge_iff_le, gt_iff_lt, reduceCtorEq, not_false_eq_true, not_true_eq_false, Bool.false_eq_true, Bool.true_eq_false] at hb)
       all_goals (try (exfalso; omega))
       all_goals conv => whnf)
    | (refine And.intro (live_all rfl) ?_; conv => whnf)
    | (refine And.intro rfl ?_; conv => whnf)
    | (refine ⟨_, IntWalk.i64_in _ (by omega), ?_⟩; conv => whnf)
    | (refine And.intro (okcs_all rfl) ?_; conv => whnf)
    | (refine And.intro (okvs_all rfl) ?_; conv => whnf)
    | (refine And.intro (frees_all rfl) ?_; conv => whnf)
    | (refine And.intro (bsl_all rfl) ?_; conv => whnf)
    | (refine And.intro (lens_all rfl) ?_; conv => whnf)
    | (refine And.intro (Nat.le_of_ble_eq_true rfl) ?_; conv => whnf)
    | (rw [ints_at (by omega)]; conv => whnf)
    | (rw [ints_at0 (by omega)]; conv => whnf)
    | (rw [ints_at' (by omega) (by omega)]; conv => whnf)
    | (refine And.intro (show (_ + 1) * _ ≤ _ by omega) ?_; conv => whnf)
    | (refine And.intro (show _ + 1 ≤ _ by omega) ?_; conv => whnf)
    | (refine And.intro (by first | omega | (simp only [length_ints]; omega)) ?_; conv => whnf)
    | (refine ⟨GSkip_mk 38 (by (try dsimp only); omega) (by omega) (by rw [length_nodeRows]; exact Nat.le_refl _) (fun hc h38 hlt => ?_) (fun n38 => ?_)⟩; all_goals conv => whnf)
    | (refine ⟨GLt_mk (b' - 1) ⟨q.p + 1, q.c, q.l⟩ (by omega) (by omega) (by (try dsimp only); omega) (by (try dsimp only); omega) (by simp only [fits, need, rank]; omega) (fun t b1 b2 b3 b4 => ?_)⟩; conv => whnf)
    | (refine ⟨GTwo_mk (by (try dsimp only at *); omega) ?_⟩; conv => whnf)
    | fail)
  · obtain ⟨d, rfl⟩ : ∃ d, b' = d + 1 := ⟨b' - 1, by omega⟩
    rw [rd_5 hc h38] at a1
    simp only [Nat.add_sub_cancel] at b1
    have hc1 := rd_c0 b1
    dsimp only at b2 b3 b4
    refine ⟨(d, PR.mk t.p t.c (t.l ++ [NodeD.mk 5 ((q.l.length : Int) - 1) ((t.l.length : Int) - 1)])), ⟨by dsimp only; omega, by dsimp only; omega, b3, by simp only [List.length_append, List.length_cons, List.length_nil]; omega, fun _ => by dsimp only; omega, PR.sim_trans (rd_sim (PR.sim_two b1)) a1⟩, by dsimp only; rw [if_pos hc]; split <;> omega, [some 0, none, some 4], rfl, rfl, And.intro (And.intro (.inl rfl) (And.intro (.inl rfl) (And.intro (.inl rfl) (And.intro rfl (And.intro (.inl rfl) trivial))))) (And.intro (And.intro rfl rfl) trivial), ?_⟩
    repeat' (first
      | exact trivial
      | refine ⟨?_, ?_⟩
      | fail)
    all_goals first
      | with_reducible rfl
      | (conv => whnf
         try left
         conv => lhs; whnf
         first
           | rfl
           | exact congrArg (AV.int .i64) (by omega)
           | skip)
  · rw [rd_5n n38] at a1
    refine ⟨by first | exact .inr rfl | exact .inl rfl, ?_⟩
    conv => whnf
    first
    | exact ⟨[some 0, none, some 1], .tup [], [some (rdO s (q.p) (q.c) 2 (q.l).length), none, some (.arr 3 (nodeRows (q.l)))], ⟨rfl, And.intro (And.intro (.inl rfl) (And.intro (.inl rfl) (And.intro (.inl rfl) (And.intro rfl (And.intro (.inl rfl) trivial))))) (And.intro (And.intro rfl rfl) trivial)⟩, trivial, rfl, hq (PR.mk (q.p) (q.c) (q.l)) (a1) (by (try dsimp only at *); omega) (by (try dsimp only at *); omega) (by simp only [List.length_append, List.length_cons, List.length_nil] at *; omega)⟩
    | exact ⟨[some 0, none, some 2], .tup [], [some (rdO s (q.p) (q.c) 2 (q.l).length), none, some (.arr 3 (nodeRows (q.l)))], ⟨rfl, And.intro (And.intro (.inl rfl) (And.intro (.inl rfl) (And.intro (.inl rfl) (And.intro rfl (And.intro (.inl rfl) trivial))))) (And.intro (And.intro rfl rfl) trivial)⟩, trivial, rfl, hq (PR.mk (q.p) (q.c) (q.l)) (a1) (by (try dsimp only at *); omega) (by (try dsimp only at *); omega) (by simp only [List.length_append, List.length_cons, List.length_nil] at *; omega)⟩
    | exact ⟨[some 0, none, some 3], .tup [], [some (rdO s (q.p) (q.c) 2 (q.l).length), none, some (.arr 3 (nodeRows (q.l)))], ⟨rfl, And.intro (And.intro (.inl rfl) (And.intro (.inl rfl) (And.intro (.inl rfl) (And.intro rfl (And.intro (.inl rfl) trivial))))) (And.intro (And.intro rfl rfl) trivial)⟩, trivial, rfl, hq (PR.mk (q.p) (q.c) (q.l)) (a1) (by (try dsimp only at *); omega) (by (try dsimp only at *); omega) (by simp only [List.length_append, List.length_cons, List.length_nil] at *; omega)⟩
    | exact ⟨[some 0, none, some 4], .tup [], [some (rdO s (q.p) (q.c) 2 (q.l).length), none, some (.arr 3 (nodeRows (q.l)))], ⟨rfl, And.intro (And.intro (.inl rfl) (And.intro (.inl rfl) (And.intro (.inl rfl) (And.intro rfl (And.intro (.inl rfl) trivial))))) (And.intro (And.intro rfl rfl) trivial)⟩, trivial, rfl, hq (PR.mk (q.p) (q.c) (q.l)) (a1) (by (try dsimp only at *); omega) (by (try dsimp only at *); omega) (by simp only [List.length_append, List.length_cons, List.length_nil] at *; omega)⟩
    | exact ⟨[some 0, none, some 5], .tup [], [some (rdO s (q.p) (q.c) 2 (q.l).length), none, some (.arr 3 (nodeRows (q.l)))], ⟨rfl, And.intro (And.intro (.inl rfl) (And.intro (.inl rfl) (And.intro (.inl rfl) (And.intro rfl (And.intro (.inl rfl) trivial))))) (And.intro (And.intro rfl rfl) trivial)⟩, trivial, rfl, hq (PR.mk (q.p) (q.c) (q.l)) (a1) (by (try dsimp only at *); omega) (by (try dsimp only at *); omega) (by simp only [List.length_append, List.length_cons, List.length_nil] at *; omega)⟩

set_option maxHeartbeats 1000000 in
theorem s_Sum {b : Nat} (h : ∀ b', b' < b + 1 → GenSound Try.prog 150 2 (GRd b' 1)) : GenSound Try.prog 103 2 (GRd (b + 1) 0) := by
  have hR : Rely Try.prog (ctxOf [(149, .gen 2 (GRow0 (b + 1)))]) := rely_cons b_impl_reader_row.has (s_row0 h) (rely_nil mixed)
  refine gen_of_aw b_impl_ltlSum ?_
  rintro xs objs Q - ⟨s, r, rfl, rfl, hs, hp, hl, hf, hq⟩ -
  refine ⟨by simp, vc2_sound hR _ _ _ _ _ ?_⟩
  conv => whnf
  repeat' (first
    | (refine And.intro (fun hb => ?_) (fun hb => ?_)
       all_goals (try simp only [decide_eq_true_eq, decide_eq_false_iff_not, Bool.not_eq_true', Bool.not_eq_false', Bool.not_not, ne_eq, length_ints, List.length_map, beq_iff_eq, bne_iff_ne, beq_eq_false_iff_ne, bne_eq_false_iff_eq, Int.not_le, Int.not_lt, ge_iff_le, gt_iff_lt, reduceCtorEq, not_false_eq_true, not_true_eq_false, Bool.false_eq_true, Bool.true_eq_false] at hb)
       all_goals (try (exfalso; omega))
       all_goals conv => whnf)
    | (refine And.intro (live_all rfl) ?_; conv => whnf)
    | (refine And.intro rfl ?_; conv => whnf)
    | (refine ⟨_, IntWalk.i64_in _ (by omega), ?_⟩; conv => whnf)
    | (refine And.intro (okcs_all rfl) ?_; conv => whnf)
    | (refine And.intro (okvs_all rfl) ?_; conv => whnf)
    | (refine And.intro (frees_all rfl) ?_; conv => whnf)
    | (refine And.intro (bsl_all rfl) ?_; conv => whnf)
    | (refine And.intro (lens_all rfl) ?_; conv => whnf)
    | (refine And.intro (Nat.le_of_ble_eq_true rfl) ?_; conv => whnf)
    | (rw [ints_at (by omega)]; conv => whnf)
    | (rw [ints_at0 (by omega)]; conv => whnf)
    | (rw [ints_at' (by omega) (by omega)]; conv => whnf)
    | (refine And.intro (show (_ + 1) * _ ≤ _ by omega) ?_; conv => whnf)
    | (refine And.intro (show _ + 1 ≤ _ by omega) ?_; conv => whnf)
    | (refine And.intro (by first | omega | (simp only [length_ints]; omega)) ?_; conv => whnf)
    | (refine ⟨GRdOf_mk (xs0 := [.int .u8 124, .int .i64 6, .fn 150 []]) (pre := fits 0 (b + 1)) (res := fun s r => rd s (b + 1) 0 r) r (by omega) (by (try dsimp only); omega) (by (try dsimp only); omega) hf (fun q a1 a2 a3 a4 => ?_)⟩; conv => whnf)
    | fail)
  refine ⟨by first | exact .inr rfl | exact .inl rfl, ?_⟩
  conv => whnf
  first
  | exact ⟨[some 0, none, some 1], .tup [], [some (rdO s (q.p) (q.c) 2 (q.l).length), none, some (.arr 3 (nodeRows (q.l)))], ⟨rfl, And.intro (And.intro (.inl rfl) (And.intro (.inl rfl) (And.intro (.inl rfl) (And.intro rfl (And.intro (.inl rfl) trivial))))) (And.intro (And.intro rfl rfl) trivial)⟩, trivial, rfl, hq (PR.mk (q.p) (q.c) (q.l)) (a1) (by (try dsimp only at *); omega) (by (try dsimp only at *); omega) (by simp only [List.length_append, List.length_cons, List.length_nil] at *; omega)⟩
  | exact ⟨[some 0, none, some 2], .tup [], [some (rdO s (q.p) (q.c) 2 (q.l).length), none, some (.arr 3 (nodeRows (q.l)))], ⟨rfl, And.intro (And.intro (.inl rfl) (And.intro (.inl rfl) (And.intro (.inl rfl) (And.intro rfl (And.intro (.inl rfl) trivial))))) (And.intro (And.intro rfl rfl) trivial)⟩, trivial, rfl, hq (PR.mk (q.p) (q.c) (q.l)) (a1) (by (try dsimp only at *); omega) (by (try dsimp only at *); omega) (by simp only [List.length_append, List.length_cons, List.length_nil] at *; omega)⟩
  | exact ⟨[some 0, none, some 3], .tup [], [some (rdO s (q.p) (q.c) 2 (q.l).length), none, some (.arr 3 (nodeRows (q.l)))], ⟨rfl, And.intro (And.intro (.inl rfl) (And.intro (.inl rfl) (And.intro (.inl rfl) (And.intro rfl (And.intro (.inl rfl) trivial))))) (And.intro (And.intro rfl rfl) trivial)⟩, trivial, rfl, hq (PR.mk (q.p) (q.c) (q.l)) (a1) (by (try dsimp only at *); omega) (by (try dsimp only at *); omega) (by simp only [List.length_append, List.length_cons, List.length_nil] at *; omega)⟩
  | exact ⟨[some 0, none, some 4], .tup [], [some (rdO s (q.p) (q.c) 2 (q.l).length), none, some (.arr 3 (nodeRows (q.l)))], ⟨rfl, And.intro (And.intro (.inl rfl) (And.intro (.inl rfl) (And.intro (.inl rfl) (And.intro rfl (And.intro (.inl rfl) trivial))))) (And.intro (And.intro rfl rfl) trivial)⟩, trivial, rfl, hq (PR.mk (q.p) (q.c) (q.l)) (a1) (by (try dsimp only at *); omega) (by (try dsimp only at *); omega) (by simp only [List.length_append, List.length_cons, List.length_nil] at *; omega)⟩
  | exact ⟨[some 0, none, some 5], .tup [], [some (rdO s (q.p) (q.c) 2 (q.l).length), none, some (.arr 3 (nodeRows (q.l)))], ⟨rfl, And.intro (And.intro (.inl rfl) (And.intro (.inl rfl) (And.intro (.inl rfl) (And.intro rfl (And.intro (.inl rfl) trivial))))) (And.intro (And.intro rfl rfl) trivial)⟩, trivial, rfl, hq (PR.mk (q.p) (q.c) (q.l)) (a1) (by (try dsimp only at *); omega) (by (try dsimp only at *); omega) (by simp only [List.length_append, List.length_cons, List.length_nil] at *; omega)⟩

set_option maxHeartbeats 1000000 in
theorem s_Product {b : Nat} (h : ∀ b', b' < b + 1 → GenSound Try.prog 187 2 (GRd b' 2)) : GenSound Try.prog 150 2 (GRd (b + 1) 1) := by
  have hR : Rely Try.prog (ctxOf [(149, .gen 2 (GRow1 (b + 1)))]) := rely_cons b_impl_reader_row.has (s_row1 h) (rely_nil mixed)
  refine gen_of_aw b_impl_ltlProduct ?_
  rintro xs objs Q - ⟨s, r, rfl, rfl, hs, hp, hl, hf, hq⟩ -
  refine ⟨by simp, vc2_sound hR _ _ _ _ _ ?_⟩
  conv => whnf
  repeat' (first
    | (refine And.intro (fun hb => ?_) (fun hb => ?_)
       all_goals (try simp only [decide_eq_true_eq, decide_eq_false_iff_not, Bool.not_eq_true', Bool.not_eq_false', Bool.not_not, ne_eq, length_ints, List.length_map, beq_iff_eq, bne_iff_ne, beq_eq_false_iff_ne, bne_eq_false_iff_eq, Int.not_le, Int.not_lt, ge_iff_le, gt_iff_lt, reduceCtorEq, not_false_eq_true, not_true_eq_false, Bool.false_eq_true, Bool.true_eq_false] at hb)
       all_goals (try (exfalso; omega))
       all_goals conv => whnf)
    | (refine And.intro (live_all rfl) ?_; conv => whnf)
    | (refine And.intro rfl ?_; conv => whnf)
    | (refine ⟨_, IntWalk.i64_in _ (by omega), ?_⟩; conv => whnf)
    | (refine And.intro (okcs_all rfl) ?_; conv => whnf)
    | (refine And.intro (okvs_all rfl) ?_; conv => whnf)
    | (refine And.intro (frees_all rfl) ?_; conv => whnf)
    | (refine And.intro (bsl_all rfl) ?_; conv => whnf)
    | (refine And.intro (lens_all rfl) ?_; conv => whnf)
    | (refine And.intro (Nat.le_of_ble_eq_true rfl) ?_; conv => whnf)
    | (rw [ints_at (by omega)]; conv => whnf)
    | (rw [ints_at0 (by omega)]; conv => whnf)
    | (rw [ints_at' (by omega) (by omega)]; conv => whnf)
    | (refine And.intro (show (_ + 1) * _ ≤ _ by omega) ?_; conv => whnf)
    | (refine And.intro (show _ + 1 ≤ _ by omega) ?_; conv => whnf)
    | (refine And.intro (by first | omega | (simp only [length_ints]; omega)) ?_; conv => whnf)
    | (refine ⟨GRdOf_mk (xs0 := [.int .u8 38, .int .i64 5, .fn 187 []]) (pre := fits 1 (b + 1)) (res := fun s r => rd s (b + 1) 1 r) r (by omega) (by (try dsimp only); omega) (by (try dsimp only); omega) hf (fun q a1 a2 a3 a4 => ?_)⟩; conv => whnf)
    | fail)
  refine ⟨by first | exact .inr rfl | exact .inl rfl, ?_⟩
  conv => whnf
  first
  | exact ⟨[some 0, none, some 1], .tup [], [some (rdO s (q.p) (q.c) 2 (q.l).length), none, some (.arr 3 (nodeRows (q.l)))], ⟨rfl, And.intro (And.intro (.inl rfl) (And.intro (.inl rfl) (And.intro (.inl rfl) (And.intro rfl (And.intro (.inl rfl) trivial))))) (And.intro (And.intro rfl rfl) trivial)⟩, trivial, rfl, hq (PR.mk (q.p) (q.c) (q.l)) (a1) (by (try dsimp only at *); omega) (by (try dsimp only at *); omega) (by simp only [List.length_append, List.length_cons, List.length_nil] at *; omega)⟩
  | exact ⟨[some 0, none, some 2], .tup [], [some (rdO s (q.p) (q.c) 2 (q.l).length), none, some (.arr 3 (nodeRows (q.l)))], ⟨rfl, And.intro (And.intro (.inl rfl) (And.intro (.inl rfl) (And.intro (.inl rfl) (And.intro rfl (And.intro (.inl rfl) trivial))))) (And.intro (And.intro rfl rfl) trivial)⟩, trivial, rfl, hq (PR.mk (q.p) (q.c) (q.l)) (a1) (by (try dsimp only at *); omega) (by (try dsimp only at *); omega) (by simp only [List.length_append, List.length_cons, List.length_nil] at *; omega)⟩
  | exact ⟨[some 0, none, some 3], .tup [], [some (rdO s (q.p) (q.c) 2 (q.l).length), none, some (.arr 3 (nodeRows (q.l)))], ⟨rfl, And.intro (And.intro (.inl rfl) (And.intro (.inl rfl) (And.intro (.inl rfl) (And.intro rfl (And.intro (.inl rfl) trivial))))) (And.intro (And.intro rfl rfl) trivial)⟩, trivial, rfl, hq (PR.mk (q.p) (q.c) (q.l)) (a1) (by (try dsimp only at *); omega) (by (try dsimp only at *); omega) (by simp only [List.length_append, List.length_cons, List.length_nil] at *; omega)⟩
  | exact ⟨[some 0, none, some 4], .tup [], [some (rdO s (q.p) (q.c) 2 (q.l).length), none, some (.arr 3 (nodeRows (q.l)))], ⟨rfl, And.intro (And.intro (.inl rfl) (And.intro (.inl rfl) (And.intro (.inl rfl) (And.intro rfl (And.intro (.inl rfl) trivial))))) (And.intro (And.intro rfl rfl) trivial)⟩, trivial, rfl, hq (PR.mk (q.p) (q.c) (q.l)) (a1) (by (try dsimp only at *); omega) (by (try dsimp only at *); omega) (by simp only [List.length_append, List.length_cons, List.length_nil] at *; omega)⟩
  | exact ⟨[some 0, none, some 5], .tup [], [some (rdO s (q.p) (q.c) 2 (q.l).length), none, some (.arr 3 (nodeRows (q.l)))], ⟨rfl, And.intro (And.intro (.inl rfl) (And.intro (.inl rfl) (And.intro (.inl rfl) (And.intro rfl (And.intro (.inl rfl) trivial))))) (And.intro (And.intro rfl rfl) trivial)⟩, trivial, rfl, hq (PR.mk (q.p) (q.c) (q.l)) (a1) (by (try dsimp only at *); omega) (by (try dsimp only at *); omega) (by simp only [List.length_append, List.length_cons, List.length_nil] at *; omega)⟩

theorem s_all : ∀ b, GenSound Try.prog 103 2 (GRd b 0) ∧ GenSound Try.prog 150 2 (GRd b 1) ∧ GenSound Try.prog 187 2 (GRd b 2) ∧ GenSound Try.prog 199 2 (GRd b 3) := by
  intro b
  induction b using Nat.strongRecOn with
  | _ b ih =>
    cases b with
    | zero =>
      refine ⟨?_, ?_, ?_, ?_⟩ <;> rintro w own0 π objs xs vs Q hl hs hr ⟨s, r, rfl, rfl, h1, h2, h3, ⟨h4, h5⟩, hq⟩ <;> (simp only [rank] at h4; omega)
    | succ b =>
      obtain ⟨i0, i1, i2, i3⟩ := ih b (Nat.lt_succ_self b)
      exact ⟨s_Sum (fun b' hb => (ih b' hb).2.1), s_Product (fun b' hb => (ih b' hb).2.2.1), s_term i3 i2, s_atom i0 i3⟩

end Go.Proofs.Ytpfbkblgefddlaa.Ct

