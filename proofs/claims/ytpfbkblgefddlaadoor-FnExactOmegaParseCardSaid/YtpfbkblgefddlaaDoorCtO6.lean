/- Expressions of words read from text: the reference's ReParse. -/
import Derived.Test.YtpfbkblgefddlaaDoorCtO5
namespace Go.Proofs.YtpfbkblgefddlaaDoor.Ct
set_option linter.unusedSimpArgs false
set_option linter.unusedVariables false
open Go Go.Proofs Go.Proofs.YtpfbkblgefddlaaDoor.Av

def c_spec_ReParse : ICode := (.seq (.reg [⟨(some 2), .mv, [(.c .snil)], none⟩, ⟨(some 3), .mv, [(.c (.int .i64 0))], none⟩, ⟨(some 4), .mv, [(.c (.int .i64 0))], none⟩]) (.seq (.seq (.reg [⟨(some 8), .mv, [(.t 0)], none⟩, ⟨(some 9), .lens, [(.t 8)], none⟩, ⟨(some 10), (.bin .gtr), [(.t 9), (.c (.int .i64 200))], none⟩]) (.cond (.t 10) (.seq (.reg [⟨(some 11), .bsle, [], none⟩, ⟨(some 2), .mv, [(.t 11)], none⟩, ⟨(some 3), .mv, [(.c (.int .i64 0))], none⟩, ⟨(some 4), .mv, [(.c (.int .i64 1))], none⟩]) .ret) .skip)) (.seq (.reg [⟨(some 13), .mv, [(.t 0)], none⟩, ⟨(some 14), .bsle, [], none⟩, ⟨(some 15), (.call 17), [(.t 13), (.c (.int .i64 0)), (.c (.int .i64 0)), (.t 14)], none⟩, ⟨(some 12), .mv, [(.t 15)], none⟩, ⟨(some 16), (.ext 0), [(.t 12)], none⟩, ⟨(some 17), (.ext 1), [(.t 12)], none⟩, ⟨(some 18), (.ext 2), [(.t 12)], none⟩, ⟨(some 5), .mv, [(.t 16)], none⟩, ⟨(some 6), .mv, [(.t 17)], none⟩, ⟨(some 7), .mv, [(.t 18)], none⟩]) (.seq (.block 0 (.seq (.reg [⟨(some 20), .mv, [(.t 7)], none⟩, ⟨(some 21), (.bin .neq), [(.t 20), (.c (.int .i64 0))], none⟩, ⟨(some 19), .mv, [(.t 21)], none⟩]) (.cond (.t 19) (.seq (.reg [⟨(some 22), .bsle, [], none⟩, ⟨(some 23), .mv, [(.t 6)], none⟩, ⟨(some 24), .mv, [(.t 7)], none⟩, ⟨(some 2), .mv, [(.t 22)], none⟩, ⟨(some 3), .mv, [(.t 23)], none⟩, ⟨(some 4), .mv, [(.t 24)], none⟩]) .ret) (.seq (.reg [⟨(some 26), .mv, [(.t 6)], none⟩, ⟨(some 27), .mv, [(.t 0)], none⟩, ⟨(some 28), .lens, [(.t 27)], none⟩, ⟨(some 29), (.bin .lss), [(.t 26), (.t 28)], none⟩, ⟨(some 25), .mv, [(.t 29)], none⟩]) (.cond (.t 25) (.seq (.reg [⟨(some 30), .bsle, [], none⟩, ⟨(some 31), .mv, [(.t 6)], none⟩, ⟨(some 2), .mv, [(.t 30)], none⟩, ⟨(some 3), .mv, [(.t 31)], none⟩, ⟨(some 4), .mv, [(.c (.int .i64 5))], none⟩]) .ret) (.seq (.reg [⟨(some 33), .mv, [(.t 5)], none⟩, ⟨(some 34), .len, [(.t 33)], none⟩, ⟨(some 35), (.bin .gtr), [(.t 34), (.c (.int .i64 31))], none⟩, ⟨(some 32), .mv, [(.t 35)], none⟩]) (.cond (.t 32) (.seq (.reg [⟨(some 36), .bsle, [], none⟩, ⟨(some 2), .mv, [(.t 36)], none⟩, ⟨(some 3), .mv, [(.c (.int .i64 0))], none⟩, ⟨(some 4), .mv, [(.c (.int .i64 4))], none⟩]) .ret) .skip))))))) (.seq (.reg [⟨(some 37), .mv, [(.t 5)], none⟩, ⟨(some 38), .mv, [(.t 0)], none⟩, ⟨(some 39), .lens, [(.t 38)], none⟩, ⟨(some 2), .mv, [(.t 37)], none⟩, ⟨(some 3), .mv, [(.t 39)], none⟩, ⟨(some 4), .mv, [(.c (.int .i64 0))], none⟩]) .ret)))))
theorem b_spec_ReParse : Body Tryd.prog 10 40 c_spec_ReParse [(.t 2), (.t 3), (.t 4)] := body_mk Tryd.func10 (by kernel_rfl) (by decide)


theorem gs_atom {b : Nat} (h2 : GenSound Tryd.prog 23 1 (GA b)) : GenSound Tryd.prog 17 1 (GS b 2) := by
  have hR : Rely Tryd.prog (ctxOf [(23, .gen 1 (GA b))]) := rely_cons b_spec_l11Atom.has h2 (rely_nil mixed)
  refine gen_of_aw b_spec_l11Read ?_
  rintro xs objs Q - ⟨s, p, l, rfl, rfl, hs, hp, hl, hf, hq⟩ -
  refine ⟨by simp, vc2_sound hR _ _ _ _ _ ?_⟩
  conv => whnf
  repeat' ((first
    | (refine And.intro (fun hb => ?_) (fun hb => ?_) <;> ((try simp only [SB, reduceCtorEq] at hb); try (exfalso; omega)))
    | refine And.intro rfl ?_
    | refine ⟨_, IntWalk.i64_in _ (by omega), ?_⟩
    | rw [ints_at (by omega)]
    | rw [ints_at0 (by omega)]
    | rw [ints_at' (by omega) (by omega)]
    | refine And.intro (lens_all rfl) ?_
    | refine And.intro (show _ ≤ _ ∧ (_ + 1) * _ ≤ _ ∧ _ + 1 ≤ _ by first | omega | (simp; omega)) ?_
    | refine And.intro (show 1 * _ ≤ _ ∧ 1 ≤ _ by omega) ?_
    | refine And.intro (by first | omega | (simp; omega) | (show _ ∧ _; simp; done)) ?_
    | refine ⟨GA_mk (p := p) (l := l) hs hp hl hf (fun q e1 a2 a3 a4 => ?_)⟩
    | fail) <;> conv => whnf)
  refine ⟨.inl rfl, ?_⟩
  conv => whnf
  exact sp_fin q rfl rfl rfl rfl rfl (hq _ e1 a2 a3 a4)

theorem er0_next {s : List UInt8} {d : Nat} {q t R : PR} (a1 : rr s (d + 1) 3 q = R) (hc : q.c = 0) (hp : q.p < s.length) (hx : s.getD q.p 0 = 124) (e : t = rr s d 1 ⟨q.p + 1, 0, q.l⟩) (h : t.c = 0) :
    rr s d 3 (PR.mk t.p 0 (t.l ++ [NodeD.mk 6 ((q.l.length : Int) - 1) ((t.l.length : Int) - 1)])) = R := by
  have ha : q.adv = ⟨q.p + 1, 0, q.l⟩ := by unfold PR.adv; rw [hc]
  rw [rr_3 hc (isB_pos hp hx), ha, ← e, two_ok h] at a1
  exact a1
theorem er0_bad {s : List UInt8} {d : Nat} {q t R : PR} (a1 : rr s (d + 1) 3 q = R) (hc : q.c = 0) (hp : q.p < s.length) (hx : s.getD q.p 0 = 124) (e : t = rr s d 1 ⟨q.p + 1, 0, q.l⟩) (h : ¬ t.c = 0) :
    rr s d 3 t = R := by
  have ha : q.adv = ⟨q.p + 1, 0, q.l⟩ := by unfold PR.adv; rw [hc]
  rw [rr_3 hc (isB_pos hp hx), ha, ← e, two_bad h] at a1
  exact a1

set_option maxHeartbeats 8000000 in
theorem gs_row0 {b : Nat} (h0 : GenSound Tryd.prog 17 1 (GSLt (b + 1))) : GenSound Tryd.prog 17 1 (GS (b + 1) 0) := by
  have hR : Rely Tryd.prog (ctxOf [(17, .gen 1 (GSLt (b + 1)))]) := rely_cons b_spec_l11Read.has h0 (rely_nil mixed)
  refine gen_of_aw b_spec_l11Read ?_
  rintro xs objs Q - ⟨s, p, l, rfl, rfl, hs, hp, hl, hf, hq⟩ -
  have hln := length_nodeRows l
  simp only [need, rank] at hf
  refine ⟨by simp, vc2_sound hR _ _ _ _ _ ?_⟩
  conv => whnf
  repeat' ((first
    | (refine And.intro (fun hb => ?_) (fun hb => ?_) <;> ((try simp only [SB, reduceCtorEq] at hb); try (exfalso; omega)))
    | refine And.intro rfl ?_
    | refine ⟨_, IntWalk.i64_in _ (by omega), ?_⟩
    | rw [ints_at (by omega)]
    | rw [ints_at0 (by omega)]
    | rw [ints_at' (by omega) (by omega)]
    | refine And.intro (lens_all rfl) ?_
    | refine And.intro (show _ ≤ _ ∧ (_ + 1) * _ ≤ _ ∧ _ + 1 ≤ _ by first | omega | (simp; omega)) ?_
    | refine And.intro (show 1 * _ ≤ _ ∧ 1 ≤ _ by omega) ?_
    | refine And.intro (by first | omega | (simp; omega) | (show _ ∧ _; simp; done)) ?_
    | (refine ⟨GSLt_mk b 1 (p := p) (l := l) (by omega) hs hp hl (by simp only [need, rank]; omega) (fun q e1 a2 a3 a4 => ?_)⟩)
    | fail) <;> conv => whnf)
  refine Lp.intro (α := Nat × PR) (fun a => a.1 ≤ b ∧ p ≤ a.2.p ∧ a.2.p ≤ s.length ∧ a.2.l.length + p ≤ l.length + a.2.p ∧ (a.2.c = 0 → 8 * (s.length - a.2.p) + 1 ≤ a.1) ∧ rr s a.1 3 a.2 = rr s (b + 1) 0 ⟨p, 0, l⟩) (fun a => if a.2.c = 0 then s.length + 1 - a.2.p else 0)
    (fun a => [(0, .str s), (2, .int .i64 0), (11, .int .u8 124), (12, .int .i64 6), (13, .ref 1 0 a.2.l.length), (14, .int .i64 a.2.p), (15, .int .i64 a.2.c)]) (fun a => [none, some (.arr 3 (nodeRows a.2.l))]) ?_ ?_
  · refine ⟨(b, q), ⟨Nat.le_refl _, a2, a3, a4, fun hc => by dsimp only at hc ⊢; omega, by rw [rr_0, e1]⟩, _, sp_cov q.l 13 (by exact rfl) (by exact rfl) (by exact rfl) ?_⟩
    exact ⟨.inl rfl, .inl rfl, .inl rfl, .inl rfl, rfl, .inl rfl, .inl rfl, trivial⟩
  clear e1 a2 a3 a4 q
  rintro ⟨b', q⟩ ⟨hb', a2, a3, a4, a5, a1⟩
  dsimp only at hb' a2 a3 a4 a5 a1 ⊢
  refine vc2_sound hR _ _ _ _ _ ?_
  conv => whnf
  repeat' ((first
    | (refine And.intro (fun hb => ?_) (fun hb => ?_) <;> ((try simp only [SB, reduceCtorEq] at hb); try (exfalso; omega)))
    | refine And.intro rfl ?_
    | refine ⟨_, IntWalk.i64_in _ (by omega), ?_⟩
    | rw [ints_at (by omega)]
    | rw [ints_at0 (by omega)]
    | rw [ints_at' (by omega) (by omega)]
    | refine And.intro (lens_all rfl) ?_
    | refine And.intro (show _ ≤ _ ∧ (_ + 1) * _ ≤ _ ∧ _ + 1 ≤ _ by first | omega | (simp; omega)) ?_
    | refine And.intro (show 1 * _ ≤ _ ∧ 1 ≤ _ by omega) ?_
    | refine And.intro (by first | omega | (simp; omega) | (show _ ∧ _; simp; done)) ?_
    | rw [str_idx (by omega)]
    | (refine ⟨GSLt_mk (b' - 1) 1 (p := q.p + 1) (l := q.l) (by omega) hs (by omega) (by omega) (by simp only [need, rank]; omega) (fun t f1 b2 b3 b4 => ?_)⟩)
    | (refine And.intro (by have := length_nodeRows t.l; omega) ?_)
    | fail) <;> conv => whnf)
  · have hc : q.c = 0 := by assumption
    obtain ⟨d, rfl⟩ : ∃ d, b' = d + 1 := ⟨b' - 1, by omega⟩
    simp only [Nat.add_sub_cancel] at f1
    have a1' := er0_next a1 hc (by omega) (u8_of 124 rfl (by assumption)) f1 hb
    refine ⟨(d, PR.mk t.p 0 (t.l ++ [NodeD.mk 6 ((q.l.length : Int) - 1) ((t.l.length : Int) - 1)])), ⟨by dsimp only; omega, by dsimp only; omega, b3, by simp only [List.length_append, List.length_cons, List.length_nil]; omega, fun _ => by dsimp only; omega, a1'⟩, by dsimp only; rw [if_pos hc]; split <;> omega, _, sp_cov (t.l ++ [NodeD.mk 6 ((q.l.length : Int) - 1) ((t.l.length : Int) - 1)]) 13 (by exact rfl) (by exact rfl) (by exact node_app) ?_⟩
    exact ⟨.inl rfl, .inl rfl, .inl rfl, .inl rfl, congrArg (AV.ref _ 0) len_app, .inl rfl, .inl (congrArg (AV.int .i64) hb), trivial⟩
  · have hc : q.c = 0 := by assumption
    obtain ⟨d, rfl⟩ : ∃ d, b' = d + 1 := ⟨b' - 1, by omega⟩
    simp only [Nat.add_sub_cancel] at f1
    have a1' := er0_bad a1 hc (by omega) (u8_of 124 rfl (by assumption)) f1 hb
    refine ⟨(d, t), ⟨by dsimp only; omega, by dsimp only; omega, b3, by dsimp only; omega, fun h => absurd h hb, a1'⟩, by dsimp only; rw [if_pos hc, if_neg hb]; omega, _, sp_cov t.l 13 (by exact rfl) (by exact rfl) (by exact rfl) ?_⟩
    exact ⟨.inl rfl, .inl rfl, .inl rfl, .inl rfl, rfl, .inl rfl, .inl rfl, trivial⟩
  all_goals
    have hn : q.c ≠ 0 ∨ isB s q.p 124 = false := by
      first
      | exact .inl (by assumption)
      | exact .inr (isB_neg (.inl (by omega)))
      | exact .inr (isB_neg (.inr (u8_not 124 rfl (by assumption))))
    rw [rr_3n hn] at a1
    refine ⟨.inl rfl, ?_⟩
    conv => whnf
    exact sp_fin q rfl rfl rfl rfl rfl (hq _ a1 a2 a3 a4)

theorem er1_next {s : List UInt8} {d : Nat} {q t R : PR} (a1 : rr s (d + 1) 4 q = R) (hc : q.c = 0) (hp : q.p < s.length) (hx : s.getD q.p 0 = 46) (e : t = rr s d 2 ⟨q.p + 1, 0, q.l⟩) (h : t.c = 0) :
    rr s d 4 (PR.mk t.p 0 (t.l ++ [NodeD.mk 5 ((q.l.length : Int) - 1) ((t.l.length : Int) - 1)])) = R := by
  have ha : q.adv = ⟨q.p + 1, 0, q.l⟩ := by unfold PR.adv; rw [hc]
  rw [rr_4 hc (isB_pos hp hx), ha, ← e, two_ok h] at a1
  exact a1
theorem er1_bad {s : List UInt8} {d : Nat} {q t R : PR} (a1 : rr s (d + 1) 4 q = R) (hc : q.c = 0) (hp : q.p < s.length) (hx : s.getD q.p 0 = 46) (e : t = rr s d 2 ⟨q.p + 1, 0, q.l⟩) (h : ¬ t.c = 0) :
    rr s d 4 t = R := by
  have ha : q.adv = ⟨q.p + 1, 0, q.l⟩ := by unfold PR.adv; rw [hc]
  rw [rr_4 hc (isB_pos hp hx), ha, ← e, two_bad h] at a1
  exact a1

set_option maxHeartbeats 8000000 in
theorem gs_row1 {b : Nat} (h0 : GenSound Tryd.prog 17 1 (GSLt (b + 1))) : GenSound Tryd.prog 17 1 (GS (b + 1) 1) := by
  have hR : Rely Tryd.prog (ctxOf [(17, .gen 1 (GSLt (b + 1)))]) := rely_cons b_spec_l11Read.has h0 (rely_nil mixed)
  refine gen_of_aw b_spec_l11Read ?_
  rintro xs objs Q - ⟨s, p, l, rfl, rfl, hs, hp, hl, hf, hq⟩ -
  have hln := length_nodeRows l
  simp only [need, rank] at hf
  refine ⟨by simp, vc2_sound hR _ _ _ _ _ ?_⟩
  conv => whnf
  repeat' ((first
    | (refine And.intro (fun hb => ?_) (fun hb => ?_) <;> ((try simp only [SB, reduceCtorEq] at hb); try (exfalso; omega)))
    | refine And.intro rfl ?_
    | refine ⟨_, IntWalk.i64_in _ (by omega), ?_⟩
    | rw [ints_at (by omega)]
    | rw [ints_at0 (by omega)]
    | rw [ints_at' (by omega) (by omega)]
    | refine And.intro (lens_all rfl) ?_
    | refine And.intro (show _ ≤ _ ∧ (_ + 1) * _ ≤ _ ∧ _ + 1 ≤ _ by first | omega | (simp; omega)) ?_
    | refine And.intro (show 1 * _ ≤ _ ∧ 1 ≤ _ by omega) ?_
    | refine And.intro (by first | omega | (simp; omega) | (show _ ∧ _; simp; done)) ?_
    | (refine ⟨GSLt_mk b 2 (p := p) (l := l) (by omega) hs hp hl (by simp only [need, rank]; omega) (fun q e1 a2 a3 a4 => ?_)⟩)
    | fail) <;> conv => whnf)
  refine Lp.intro (α := Nat × PR) (fun a => a.1 ≤ b ∧ p ≤ a.2.p ∧ a.2.p ≤ s.length ∧ a.2.l.length + p ≤ l.length + a.2.p ∧ (a.2.c = 0 → 8 * (s.length - a.2.p) + 1 ≤ a.1) ∧ rr s a.1 4 a.2 = rr s (b + 1) 1 ⟨p, 0, l⟩) (fun a => if a.2.c = 0 then s.length + 1 - a.2.p else 0)
    (fun a => [(0, .str s), (2, .int .i64 1), (11, .int .u8 46), (12, .int .i64 5), (13, .ref 1 0 a.2.l.length), (14, .int .i64 a.2.p), (15, .int .i64 a.2.c)]) (fun a => [none, some (.arr 3 (nodeRows a.2.l))]) ?_ ?_
  · refine ⟨(b, q), ⟨Nat.le_refl _, a2, a3, a4, fun hc => by dsimp only at hc ⊢; omega, by rw [rr_1, e1]⟩, _, sp_cov q.l 13 (by exact rfl) (by exact rfl) (by exact rfl) ?_⟩
    exact ⟨.inl rfl, .inl rfl, .inl rfl, .inl rfl, rfl, .inl rfl, .inl rfl, trivial⟩
  clear e1 a2 a3 a4 q
  rintro ⟨b', q⟩ ⟨hb', a2, a3, a4, a5, a1⟩
  dsimp only at hb' a2 a3 a4 a5 a1 ⊢
  refine vc2_sound hR _ _ _ _ _ ?_
  conv => whnf
  repeat' ((first
    | (refine And.intro (fun hb => ?_) (fun hb => ?_) <;> ((try simp only [SB, reduceCtorEq] at hb); try (exfalso; omega)))
    | refine And.intro rfl ?_
    | refine ⟨_, IntWalk.i64_in _ (by omega), ?_⟩
    | rw [ints_at (by omega)]
    | rw [ints_at0 (by omega)]
    | rw [ints_at' (by omega) (by omega)]
    | refine And.intro (lens_all rfl) ?_
    | refine And.intro (show _ ≤ _ ∧ (_ + 1) * _ ≤ _ ∧ _ + 1 ≤ _ by first | omega | (simp; omega)) ?_
    | refine And.intro (show 1 * _ ≤ _ ∧ 1 ≤ _ by omega) ?_
    | refine And.intro (by first | omega | (simp; omega) | (show _ ∧ _; simp; done)) ?_
    | rw [str_idx (by omega)]
    | (refine ⟨GSLt_mk (b' - 1) 2 (p := q.p + 1) (l := q.l) (by omega) hs (by omega) (by omega) (by simp only [need, rank]; omega) (fun t f1 b2 b3 b4 => ?_)⟩)
    | (refine And.intro (by have := length_nodeRows t.l; omega) ?_)
    | fail) <;> conv => whnf)
  · have hc : q.c = 0 := by assumption
    obtain ⟨d, rfl⟩ : ∃ d, b' = d + 1 := ⟨b' - 1, by omega⟩
    simp only [Nat.add_sub_cancel] at f1
    have a1' := er1_next a1 hc (by omega) (u8_of 46 rfl (by assumption)) f1 hb
    refine ⟨(d, PR.mk t.p 0 (t.l ++ [NodeD.mk 5 ((q.l.length : Int) - 1) ((t.l.length : Int) - 1)])), ⟨by dsimp only; omega, by dsimp only; omega, b3, by simp only [List.length_append, List.length_cons, List.length_nil]; omega, fun _ => by dsimp only; omega, a1'⟩, by dsimp only; rw [if_pos hc]; split <;> omega, _, sp_cov (t.l ++ [NodeD.mk 5 ((q.l.length : Int) - 1) ((t.l.length : Int) - 1)]) 13 (by exact rfl) (by exact rfl) (by exact node_app) ?_⟩
    exact ⟨.inl rfl, .inl rfl, .inl rfl, .inl rfl, congrArg (AV.ref _ 0) len_app, .inl rfl, .inl (congrArg (AV.int .i64) hb), trivial⟩
  · have hc : q.c = 0 := by assumption
    obtain ⟨d, rfl⟩ : ∃ d, b' = d + 1 := ⟨b' - 1, by omega⟩
    simp only [Nat.add_sub_cancel] at f1
    have a1' := er1_bad a1 hc (by omega) (u8_of 46 rfl (by assumption)) f1 hb
    refine ⟨(d, t), ⟨by dsimp only; omega, by dsimp only; omega, b3, by dsimp only; omega, fun h => absurd h hb, a1'⟩, by dsimp only; rw [if_pos hc, if_neg hb]; omega, _, sp_cov t.l 13 (by exact rfl) (by exact rfl) (by exact rfl) ?_⟩
    exact ⟨.inl rfl, .inl rfl, .inl rfl, .inl rfl, rfl, .inl rfl, .inl rfl, trivial⟩
  all_goals
    have hn : q.c ≠ 0 ∨ isB s q.p 46 = false := by
      first
      | exact .inl (by assumption)
      | exact .inr (isB_neg (.inl (by omega)))
      | exact .inr (isB_neg (.inr (u8_not 46 rfl (by assumption))))
    rw [rr_4n hn] at a1
    refine ⟨.inl rfl, ?_⟩
    conv => whnf
    exact sp_fin q rfl rfl rfl rfl rfl (hq _ a1 a2 a3 a4)

theorem splitAt {P : Program} {N k : Nat} {K : XK} {e : Env} {h : Heap} {n : Nat} {Γ : Ctx} (hR : Rely P Γ) (i : Nat) {l : List IOper} (hk : regK2 Γ (l.take i) e h n (fun e' h' n' => ∃ σ L os, CovN σ e' h' L os k ∧ regK2 Γ (l.drop i) (envL L) (objsO os) os.length (K .normal))) : Aw P N k (.reg l) K e h n := by
  have h1 : Aw P N k (.reg (l.take i ++ l.drop i)) K e h n := Aw.split hR (by rw [← regK2_eq]; simpa only [regK2_eq] using hk)
  rwa [List.take_append_drop] at h1

theorem gs_all : ∀ b, GenSound Tryd.prog 23 1 (GA b) ∧ ∀ m, m ≤ 2 → GenSound Tryd.prog 17 1 (GS b m) := by
  intro b
  induction b using Nat.strongRecOn with
  | _ b ih =>
    by_cases hb : b < 3
    · refine ⟨?_, ?_⟩
      · rintro w own0 π objs xs vs Q hl hs hr ⟨s, p, l, rfl, rfl, h1, h2, h3, h4, hq⟩
        simp only [need, rank] at h4
        omega
      · rintro m hm w own0 π objs xs vs Q hl hs hr ⟨s, p, l, rfl, rfl, h1, h2, h3, h4, hq⟩
        have : m = 0 ∨ m = 1 ∨ m = 2 := by omega
        rcases this with rfl | rfl | rfl <;> (simp only [need, rank] at h4; omega)
    · obtain ⟨b, rfl⟩ : ∃ c, b = c + 2 := ⟨b - 2, by omega⟩
      have hlt : GenSound Tryd.prog 17 1 (GSLt (b + 2)) := fun w own0 π objs xs vs Q hl hs hr ⟨b', m, hb, hm, hg⟩ => (ih b' hb).2 m hm w own0 π objs xs vs Q hl hs hr hg
      have ha := s_l11Atom hlt
      refine ⟨ha, fun m hm => ?_⟩
      have : m = 0 ∨ m = 1 ∨ m = 2 := by omega
      rcases this with rfl | rfl | rfl
      · exact gs_row0 hlt
      · exact gs_row1 hlt
      · exact gs_atom ha

def GS0 : GFun := GSLt 1608
theorem s_GS0 : GenSound Tryd.prog 17 1 GS0 := fun w own0 π objs xs vs Q hl hs hr ⟨b', m, hb, hm, hg⟩ => (gs_all b').2 m hm w own0 π objs xs vs Q hl hs hr hg

set_option maxHeartbeats 4000000 in
theorem s_spec_ReParse : PureSound Tryd.prog 10 RReParse := by
  have hR : Rely Tryd.prog (ctxOf [(17, .gen 1 GS0)]) := rely_cons b_spec_l11Read.has s_GS0 (rely_nil mixed)
  refine pure_of_aw b_spec_ReParse ?_
  rintro xs r objs ⟨s, rfl, rfl, rfl⟩ -
  refine ⟨by simp, ?_⟩
  refine Aw.meet (α := Unit) (fun _ => True) (fun _ => [(0, .str s)]) (fun _ => []) ?_ ?_
  · refine vc2_sound hR _ _ _ _ _ ?_
    conv => whnf
    repeat' ((first
      | (refine And.intro (fun hb => ?_) (fun hb => ?_) <;> ((try simp only [SB, reduceCtorEq] at hb); try (exfalso; omega)))
      | refine And.intro rfl ?_
      | refine ⟨_, IntWalk.i64_in _ (by omega), ?_⟩
      | rw [ints_at (by omega)]
      | rw [ints_at0 (by omega)]
      | rw [ints_at' (by omega) (by omega)]
      | refine And.intro (lens_all rfl) ?_
      | refine And.intro (show _ ≤ _ ∧ (_ + 1) * _ ≤ _ ∧ _ + 1 ≤ _ by first | omega | (simp; omega)) ?_
      | refine And.intro (show 1 * _ ≤ _ ∧ 1 ≤ _ by omega) ?_
      | refine And.intro (by first | omega | (simp; omega) | (show _ ∧ _; simp; done)) ?_
      | fail) <;> conv => whnf)
    refine ⟨(), trivial, [], rfl, rfl, trivial, ?_⟩
    repeat' (first
      | exact trivial
      | refine ⟨?_, ?_⟩
      | fail)
    all_goals first
      | with_reducible rfl
      | (conv => whnf
         try left
         conv => lhs; whnf
         first
           | rfl
           | exact congrArg (AV.int .i64) (by omega)
           | skip)
  rintro _ -
  refine Aw.meet (α := Unit) (fun _ => s.length ≤ 200) (fun _ => [(0, .str s)]) (fun _ => []) ?_ ?_
  · refine vc2_sound hR _ _ _ _ _ ?_
    conv => whnf
    repeat' ((first
      | (refine And.intro (fun hb => ?_) (fun hb => ?_) <;> ((try simp only [SB, reduceCtorEq] at hb); try (exfalso; omega)))
      | refine And.intro rfl ?_
      | refine ⟨_, IntWalk.i64_in _ (by omega), ?_⟩
      | rw [ints_at (by omega)]
      | rw [ints_at0 (by omega)]
      | rw [ints_at' (by omega) (by omega)]
      | refine And.intro (lens_all rfl) ?_
      | refine And.intro (show _ ≤ _ ∧ (_ + 1) * _ ≤ _ ∧ _ + 1 ≤ _ by first | omega | (simp; omega)) ?_
      | refine And.intro (show 1 * _ ≤ _ ∧ 1 ≤ _ by omega) ?_
      | refine And.intro (by first | omega | (simp; omega) | (show _ ∧ _; simp; done)) ?_
      | fail) <;> conv => whnf)
    · have e : parseE s = ⟨0, 1, []⟩ := by unfold parseE; rw [if_pos (by omega)]
      rw [e]
      refine ⟨.inl rfl, ?_⟩
      conv => whnf
      refine ⟨[], ⟨rfl, trivial⟩, ?_, rfl, rfl⟩
      repeat' (first | exact trivial | refine And.intro ?_ ?_)
      all_goals
        conv => whnf
        left
        conv => lhs; whnf
      all_goals rfl
    · refine ⟨(), by omega, [], rfl, rfl, trivial, ?_⟩
      repeat' (first
        | exact trivial
        | refine ⟨?_, ?_⟩
        | fail)
      all_goals first
        | with_reducible rfl
        | (conv => whnf
           try left
           conv => lhs; whnf
           first
             | rfl
             | exact congrArg (AV.int .i64) (by omega)
             | skip)
  rintro _ hs
  refine Aw.meet (α := PR) (fun q => q = rr s 1607 0 ⟨0, 0, []⟩ ∧ q.p ≤ s.length ∧ q.l.length ≤ q.p) (fun q => [(0, .str s), (5, .ref 1 0 q.l.length), (6, .int .i64 q.p), (7, .int .i64 q.c)]) (fun q => [none, some (.arr 3 (nodeRows q.l))]) ?_ ?_
  · refine splitAt hR 2 ?_
    conv => whnf
    repeat' ((first
      | (refine And.intro (fun hb => ?_) (fun hb => ?_) <;> ((try simp only [SB, reduceCtorEq] at hb); try (exfalso; omega)))
      | refine And.intro rfl ?_
      | refine ⟨_, IntWalk.i64_in _ (by omega), ?_⟩
      | rw [ints_at (by omega)]
      | rw [ints_at0 (by omega)]
      | rw [ints_at' (by omega) (by omega)]
      | refine And.intro (lens_all rfl) ?_
      | refine And.intro (show _ ≤ _ ∧ (_ + 1) * _ ≤ _ ∧ _ + 1 ≤ _ by first | omega | (simp; omega)) ?_
      | refine And.intro (show 1 * _ ≤ _ ∧ 1 ≤ _ by omega) ?_
      | refine And.intro (by first | omega | (simp; omega) | (show _ ∧ _; simp; done)) ?_
      | fail) <;> conv => whnf)
    refine ⟨[none], [(0, .str s), (13, .str s), (14, .ref 0 0 0)], [some (.arr 3 [])], ⟨rfl, rfl, And.intro rfl trivial, ?_⟩, ?_⟩
    · repeat' (first
        | exact trivial
        | refine ⟨?_, ?_⟩
        | fail)
      all_goals first
        | with_reducible rfl
        | (conv => whnf
           try left
           conv => lhs; whnf
           first
             | rfl
             | exact congrArg (AV.int .i64) (by omega)
             | skip)
    conv => whnf
    repeat' ((first
      | (refine And.intro (fun hb => ?_) (fun hb => ?_) <;> ((try simp only [SB, reduceCtorEq] at hb); try (exfalso; omega)))
      | refine And.intro rfl ?_
      | refine ⟨_, IntWalk.i64_in _ (by omega), ?_⟩
      | rw [ints_at (by omega)]
      | rw [ints_at0 (by omega)]
      | rw [ints_at' (by omega) (by omega)]
      | refine And.intro (lens_all rfl) ?_
      | refine And.intro (show _ ≤ _ ∧ (_ + 1) * _ ≤ _ ∧ _ + 1 ≤ _ by first | omega | (simp; omega)) ?_
      | refine And.intro (show 1 * _ ≤ _ ∧ 1 ≤ _ by omega) ?_
      | refine And.intro (by first | omega | (simp; omega) | (show _ ∧ _; simp; done)) ?_
      | (refine ⟨GSLt_mk 1607 0 (p := 0) (l := []) (by omega) hs (Nat.zero_le _) (Nat.le_refl _) (by simp only [need, rank]; omega) (fun q e1 a2 a3 a4 => ?_)⟩)
      | fail) <;> conv => whnf)
    refine ⟨q, ⟨e1, a3, by simp at a4; omega⟩, [none, some 1], rfl, rfl, And.intro (And.intro rfl rfl) trivial, ?_⟩
    repeat' (first
      | exact trivial
      | refine ⟨?_, ?_⟩
      | fail)
    all_goals first
      | with_reducible rfl
      | (conv => whnf
         try left
         conv => lhs; whnf
         first
           | rfl
           | exact congrArg (AV.int .i64) (by omega)
           | skip)
  rintro q ⟨e1, a3, a4⟩
  refine vc2_sound hR _ _ _ _ _ ?_
  conv => whnf
  repeat' ((first
    | (refine And.intro (fun hb => ?_) (fun hb => ?_) <;> ((try simp only [SB, reduceCtorEq] at hb); try (exfalso; omega)))
    | refine And.intro rfl ?_
    | refine ⟨_, IntWalk.i64_in _ (by omega), ?_⟩
    | rw [ints_at (by omega)]
    | rw [ints_at0 (by omega)]
    | rw [ints_at' (by omega) (by omega)]
    | refine And.intro (lens_all rfl) ?_
    | refine And.intro (show _ ≤ _ ∧ (_ + 1) * _ ≤ _ ∧ _ + 1 ≤ _ by first | omega | (simp; omega)) ?_
    | refine And.intro (show 1 * _ ≤ _ ∧ 1 ≤ _ by omega) ?_
    | refine And.intro (by first | omega | (simp; omega) | (show _ ∧ _; simp; done)) ?_
    | fail) <;> conv => whnf)
  · have e : parseE s = ⟨q.p, q.c, []⟩ := by
      unfold parseE
      rw [if_neg (by omega)]
      dsimp only
      rw [← e1, if_pos hb]
    rw [e]
    unfold parseR parseO
    dsimp only
    rw [if_neg hb, if_neg hb]
    refine ⟨.inl rfl, ?_⟩
    conv => whnf
    refine ⟨[], ⟨rfl, trivial⟩, ?_, rfl, rfl⟩
    repeat' (first | exact trivial | refine And.intro ?_ ?_)
    all_goals
      conv => whnf
      left
      conv => lhs; whnf
    all_goals rfl
  · have e : parseE s = ⟨q.p, 5, []⟩ := by
      unfold parseE
      rw [if_neg (by omega), ← e1]
      dsimp only
      rw [if_neg (by omega), if_pos (by omega)]
    rw [e]
    refine ⟨.inl rfl, ?_⟩
    conv => whnf
    refine ⟨[], ⟨rfl, trivial⟩, ?_, rfl, rfl⟩
    repeat' (first | exact trivial | refine And.intro ?_ ?_)
    all_goals
      conv => whnf
      left
      conv => lhs; whnf
    all_goals rfl
  · have e : parseE s = ⟨0, 4, []⟩ := by
      unfold parseE
      rw [if_neg (by omega), ← e1]
      dsimp only
      rw [if_neg (by omega), if_neg (by omega), if_pos (by omega)]
    rw [e]
    refine ⟨.inl rfl, ?_⟩
    conv => whnf
    refine ⟨[], ⟨rfl, trivial⟩, ?_, rfl, rfl⟩
    repeat' (first | exact trivial | refine And.intro ?_ ?_)
    all_goals
      conv => whnf
      left
      conv => lhs; whnf
    all_goals rfl
  · have e : parseE s = ⟨s.length, 0, q.l⟩ := by
      unfold parseE
      rw [if_neg (by omega), ← e1]
      dsimp only
      rw [if_neg (by omega), if_neg (by omega), if_neg (by omega)]
    rw [e]
    refine ⟨.inl rfl, ?_⟩
    conv => whnf
    refine ⟨[some 1], ⟨rfl, And.intro (And.intro rfl rfl) trivial⟩, And.intro rfl (And.intro (.inl rfl) (And.intro (.inl rfl) trivial)), rfl, by simp [parseO, AObj.nov, nodeRows_nov]⟩

end Go.Proofs.YtpfbkblgefddlaaDoor.Ct
