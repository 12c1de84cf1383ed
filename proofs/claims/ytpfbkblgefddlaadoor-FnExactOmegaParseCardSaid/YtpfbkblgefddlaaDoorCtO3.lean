/- Expressions of words read from text: what the program's reader does. -/
import Derived.Test.YtpfbkblgefddlaaDoorCtO2
namespace Go.Proofs.YtpfbkblgefddlaaDoor.Ct
set_option linter.unusedSimpArgs false
set_option linter.unusedVariables false
open Go Go.Proofs Go.Proofs.YtpfbkblgefddlaaDoor.Av

def c_impl_reader_row : ICode := (.seq (.reg [⟨(some 9), .mv, [(.t 3)], none⟩, ⟨(some 10), .mv, [(.t 0)], none⟩, ⟨(some 11), .dyn, [(.t 9), (.t 10)], none⟩]) (.block 0 (.loop (.seq (.seq (.reg [⟨(some 12), .mv, [(.t 0)], none⟩, ⟨(some 13), .mv, [(.t 1)], none⟩, ⟨(some 14), (.call 39), [(.t 12), (.t 13)], none⟩]) (.cond (.t 14) .skip (.exit 0))) (.block 1 (.seq (.reg [⟨(some 15), .mv, [(.t 0)], none⟩, ⟨(some 16), .nck, [(.t 15)], none⟩, ⟨(some 17), (.fadr 3), [(.t 16)], none⟩, ⟨(some 18), .ld1, [(.t 17)], none⟩, ⟨(some 19), .len, [(.t 18)], none⟩, ⟨(some 20), (.bin .sub), [(.t 19), (.c (.int .i64 1))], none⟩, ⟨(some 8), .mv, [(.t 20)], none⟩]) (.seq (.reg [⟨(some 21), .mv, [(.t 3)], none⟩, ⟨(some 22), .mv, [(.t 0)], none⟩, ⟨(some 23), .dyn, [(.t 21), (.t 22)], none⟩]) (.reg [⟨(some 24), .mv, [(.t 0)], none⟩, ⟨(some 25), .mv, [(.t 2)], none⟩, ⟨(some 26), .mv, [(.t 8)], none⟩, ⟨(some 27), (.call 40), [(.t 24), (.t 25), (.t 26)], none⟩]))))))))
theorem b_impl_reader_row : Body Tryd.prog 29 28 c_impl_reader_row [] := body_mk Tryd.func29 (by kernel_rfl) (by decide)

def c_impl_reader_bracket : ICode := (.seq (.reg [⟨(some 4), .mv, [(.t 1)], none⟩, ⟨(some 5), .mv, [(.t 0)], none⟩, ⟨(some 6), .dyn, [(.t 4), (.t 5)], none⟩]) (.seq (.reg [⟨(some 7), .mv, [(.t 0)], none⟩, ⟨(some 8), (.call 39), [(.t 7), (.c (.int .u8 41))], none⟩, ⟨(some 9), .not, [(.t 8)], none⟩]) (.cond (.t 9) (.reg [⟨(some 10), .mv, [(.t 0)], none⟩, ⟨(some 11), (.call 48), [(.t 10)], none⟩]) .skip)))
theorem b_impl_reader_bracket : Body Tryd.prog 46 12 c_impl_reader_bracket [] := body_mk Tryd.func46 (by kernel_rfl) (by decide)

def c_impl_reSum : ICode := (.reg [⟨(some 2), .mv, [(.t 0)], none⟩, ⟨(some 3), (.call 29), [(.t 2), (.c (.int .u8 124)), (.c (.int .i64 6)), (.c (.fn 30 []))], none⟩])
theorem b_impl_reSum : Body Tryd.prog 21 4 c_impl_reSum [] := body_mk Tryd.func21 (by kernel_rfl) (by decide)

def c_impl_reProduct : ICode := (.reg [⟨(some 2), .mv, [(.t 0)], none⟩, ⟨(some 3), (.call 29), [(.t 2), (.c (.int .u8 46)), (.c (.int .i64 5)), (.c (.fn 41 []))], none⟩])
theorem b_impl_reProduct : Body Tryd.prog 30 4 c_impl_reProduct [] := body_mk Tryd.func30 (by kernel_rfl) (by decide)

def c_impl_reAtom : ICode := (.seq (.reg [⟨(some 3), .mv, [(.t 0)], none⟩, ⟨(some 4), (.call 45), [(.t 3)], none⟩, ⟨(some 2), .mv, [(.t 4)], none⟩]) (.seq (.block 0 (.seq (.reg [⟨(some 8), .mv, [(.t 0)], none⟩, ⟨(some 9), (.call 39), [(.t 8), (.c (.int .u8 40))], none⟩, ⟨(some 7), .mv, [(.t 9)], none⟩]) (.cond (.t 7) (.reg [⟨(some 10), .mv, [(.t 0)], none⟩, ⟨(some 11), (.call 46), [(.t 10), (.c (.fn 21 []))], none⟩]) (.seq (.reg [⟨(some 13), .mv, [(.t 0)], none⟩, ⟨(some 14), (.call 39), [(.t 13), (.c (.int .u8 64))], none⟩, ⟨(some 12), .mv, [(.t 14)], none⟩]) (.cond (.t 12) (.reg [⟨(some 15), .mv, [(.t 0)], none⟩, ⟨(some 16), (.call 47), [(.t 15), (.c (.int .i64 1)), (.c (.int .i64 0))], none⟩]) (.seq (.reg [⟨(some 18), .mv, [(.t 0)], none⟩, ⟨(some 19), (.call 39), [(.t 18), (.c (.int .u8 95))], none⟩, ⟨(some 17), .mv, [(.t 19)], none⟩]) (.cond (.t 17) (.reg [⟨(some 20), .mv, [(.t 0)], none⟩, ⟨(some 21), (.call 47), [(.t 20), (.c (.int .i64 2)), (.c (.int .i64 0))], none⟩]) (.seq (.reg [⟨(some 23), .mv, [(.t 2)], none⟩, ⟨(some 24), (.bin .geq), [(.t 23), (.c (.int .u8 48))], none⟩, ⟨(some 25), .mv, [(.t 24)], none⟩, ⟨(some 26), .mv, [(.t 2)], (some (25, true))⟩, ⟨(some 27), (.bin .lss), [(.t 26), (.c (.int .u8 56))], (some (25, true))⟩, ⟨(some 28), .pick, [(.t 25), (.t 27), (.c (.bool false))], none⟩, ⟨(some 22), .mv, [(.t 28)], none⟩]) (.cond (.t 22) (.seq (.reg [⟨(some 29), .mv, [(.t 0)], none⟩, ⟨(some 30), .nck, [(.t 29)], none⟩, ⟨(some 31), (.fadr 1), [(.t 30)], none⟩, ⟨(some 32), .ld1, [(.t 31)], none⟩, ⟨(some 33), (.bin .add), [(.t 32), (.c (.int .i64 1))], none⟩, ⟨(some 34), .nck, [(.t 29)], none⟩, ⟨(some 35), (.fadr 1), [(.t 34)], none⟩, ⟨none, (.st 1), [(.t 35), (.t 33)], none⟩]) (.reg [⟨(some 36), .mv, [(.t 0)], none⟩, ⟨(some 37), .mv, [(.t 2)], none⟩, ⟨(some 38), (.bin .sub), [(.t 37), (.c (.int .u8 48))], none⟩, ⟨(some 39), (.cvt .i64), [(.t 38)], none⟩, ⟨(some 40), (.call 47), [(.t 36), (.c (.int .i64 3)), (.t 39)], none⟩])) (.reg [⟨(some 5), .mv, [(.t 0)], none⟩, ⟨(some 6), (.call 48), [(.t 5)], none⟩])))))))))) (.block 1 (.loop (.seq (.seq (.reg [⟨(some 41), .mv, [(.t 0)], none⟩, ⟨(some 42), (.call 39), [(.t 41), (.c (.int .u8 42))], none⟩]) (.cond (.t 42) .skip (.exit 1))) (.block 2 (.reg [⟨(some 43), .mv, [(.t 0)], none⟩, ⟨(some 44), (.call 49), [(.t 43), (.c (.int .i64 4))], none⟩])))))))
theorem b_impl_reAtom : Body Tryd.prog 41 45 c_impl_reAtom [] := body_mk Tryd.func41 (by kernel_rfl) (by decide)


theorem rr_5f {s : List UInt8} {b : Nat} {r : PR} (n40 : r.c ≠ 0 ∨ isB s r.p 40 = false) (n64 : r.c ≠ 0 ∨ isB s r.p 64 = false) (n95 : r.c ≠ 0 ∨ isB s r.p 95 = false)
    (hd : r.c = 0 → ¬ (r.p < s.length ∧ 48 ≤ (s.getD r.p 0).toNat ∧ (s.getD r.p 0).toNat < 56)) : (PR.mk r.p (failC s r.p r.c) r.l).sim (rr s (b + 1) 5 r) := by
  by_cases hc : r.c = 0
  · rw [rr_5x hc (n40.resolve_left (fun h => h hc)) (n64.resolve_left (fun h => h hc)) (n95.resolve_left (fun h => h hc)) (hd hc)]
    unfold failC PR.bad
    rw [if_pos hc]
    exact PR.sim_refl _
  · rw [rr_err hc]
    unfold failC
    rw [if_neg hc]
    exact PR.sim_refl _

def GBr (b : Nat) : GFun := GRdOf [.fn 21 []] (fits 0 b) (fun s r => (rr s b 0 r).close s)

set_option maxHeartbeats 4000000 in
theorem s_bracket {b : Nat} (h0 : GenSound Tryd.prog 21 2 (GRd b 0)) : GenSound Tryd.prog 46 2 (GBr b) := by
  have hR : Rely Tryd.prog (ctxOf [(21, .gen 2 (GRd b 0)), (39, .gen 2 GSkip), (48, .gen 2 GFail)]) :=
    rely_cons b_impl_reSum.has h0 (rely_cons b_impl_reader_skip.has s_impl_skip (rely_cons b_impl_reader_fail.has s_impl_fail (rely_nil mixed)))
  refine gen_of_aw b_impl_reader_bracket ?_
  rintro xs objs Q - ⟨s, r, rfl, rfl, hs, hp, hl, hf, hq⟩ -
  refine ⟨by simp, vc2_sound hR _ _ _ _ _ ?_⟩
  conv => whnf
  repeat' ((first
    | (refine And.intro (fun hb => ?_) (fun hb => ?_) <;> ((try simp only [SB, reduceCtorEq] at hb); try (exfalso; omega)))
    | refine And.intro rfl ?_
    | refine ⟨_, IntWalk.i64_in _ (by omega), ?_⟩
    | rw [ints_at (by omega)]
    | rw [ints_at0 (by omega)]
    | rw [ints_at' (by omega) (by omega)]
    | refine And.intro (lens_all rfl) ?_
    | refine And.intro (show _ ≤ _ ∧ (_ + 1) * _ ≤ _ ∧ _ + 1 ≤ _ by first | omega | (simp; omega)) ?_
    | refine And.intro (show 1 * _ ≤ _ ∧ 1 ≤ _ by omega) ?_
    | refine And.intro (by first | omega | (simp; omega) | (show _ ∧ _; simp; done)) ?_
    | (refine ⟨GRdOf_mk (xs0 := []) (pre := fits 0 b) (res := fun s r => rr s b 0 r) r (by omega) (by (try dsimp only); omega) (by (try dsimp only); omega) hf (fun q a1 a2 a3 a4 => ?_)⟩)
    | (refine ⟨GSkip_mk 41 (by (try dsimp only); omega) (by omega) (by rw [length_nodeRows]; exact Nat.le_refl _) (fun hc h41 hlt => ?_) (fun n41 => ?_)⟩)
    | (refine ⟨GFail_mk (by (try dsimp only); omega) (by omega) (by rw [length_nodeRows]; exact Nat.le_refl _) ?_⟩)
    | fail) <;> conv => whnf)
  · refine ⟨by first | exact .inr rfl | exact .inl rfl, ?_⟩
    conv => whnf
    exact rd_fin (PR.mk (q.p + 1) q.c q.l) rfl rfl rfl (hq _ (PR.sim_close a1 hc h41) (by (try dsimp only at *); omega) (by (try dsimp only at *); omega) (by (try simp only [List.length_append, List.length_cons, List.length_nil] at *); omega))
  · refine ⟨by first | exact .inr rfl | exact .inl rfl, ?_⟩
    conv => whnf
    exact rd_fin (PR.mk q.p (failC s q.p q.c) q.l) rfl rfl rfl (hq _ (PR.sim_open a1 n41) (by (try dsimp only at *); omega) (by (try dsimp only at *); omega) (by (try simp only [List.length_append, List.length_cons, List.length_nil] at *); omega))

set_option maxHeartbeats 8000000 in
theorem s_reAtom {b : Nat} (h0 : GenSound Tryd.prog 21 2 (GRd b 0)) : GenSound Tryd.prog 41 2 (GRd (b + 2) 2) := by
  have hR : Rely Tryd.prog (ctxOf [(45, .pure RPeek), (39, .gen 2 GSkip), (46, .gen 2 (GBr b)), (47, .gen 2 GLeaf), (48, .gen 2 GFail), (49, .gen 2 GOne)]) :=
    rely_cons b_impl_reader_peek.has s_impl_peek (rely_cons b_impl_reader_skip.has s_impl_skip (rely_cons b_impl_reader_bracket.has (s_bracket h0) (rely_cons b_impl_reader_leaf.has s_impl_read_leaf (rely_cons b_impl_reader_fail.has s_impl_fail (rely_cons b_impl_reader_one.has s_impl_read_one (rely_nil mixed))))))
  refine gen_of_aw b_impl_reAtom ?_
  rintro xs objs Q - ⟨s, r, rfl, rfl, hs, hp, hl, hf, hq⟩ -
  simp only [fits, need, rank] at hf
  refine ⟨by simp, ?_⟩
  refine Aw.meet (α := Unit) (fun _ => True) (fun _ => [(0, .ptr 0 0 0), (2, .int .u8 (if r.c = 0 ∧ r.p < s.length then ((s.getD r.p 0).toNat : Int) else 0))]) (fun _ => [some (rdO s r.p r.c 1 r.l.length), some (.arr 3 (nodeRows r.l))]) ?_ ?_
  · refine vc2_sound hR _ _ _ _ _ ?_
    by_cases h : r.c = 0 ∧ r.p < s.length
    · rw [if_pos h]
      conv => whnf
      repeat' ((first
        | (refine And.intro (fun hb => ?_) (fun hb => ?_) <;> ((try simp only [SB, reduceCtorEq] at hb); try (exfalso; omega)))
        | refine And.intro rfl ?_
        | refine ⟨_, IntWalk.i64_in _ (by omega), ?_⟩
        | rw [ints_at (by omega)]
        | rw [ints_at0 (by omega)]
        | rw [ints_at' (by omega) (by omega)]
        | refine And.intro (lens_all rfl) ?_
        | refine And.intro (show _ ≤ _ ∧ (_ + 1) * _ ≤ _ ∧ _ + 1 ≤ _ by first | omega | (simp; omega)) ?_
        | refine And.intro (show 1 * _ ≤ _ ∧ 1 ≤ _ by omega) ?_
        | refine And.intro (by first | omega | (simp; omega) | (show _ ∧ _; simp; done)) ?_
        | refine ⟨_, _, RPeek_some hs h.1 h.2, ?_⟩
        | fail) <;> conv => whnf)
      refine ⟨(), trivial, [some 0, some 1], rfl, rfl, ?_, ?_⟩
      · exact And.intro (And.intro (.inl rfl) (And.intro (.inl rfl) (And.intro (.inl rfl) (And.intro rfl (And.intro (.inl rfl) trivial))))) (And.intro (And.intro rfl rfl) trivial)
      · repeat' (first
          | exact trivial
          | refine ⟨?_, ?_⟩
          | fail)
        all_goals first
          | with_reducible rfl
          | (conv => whnf
             try left
             conv => lhs; whnf
             first
               | rfl
               | exact congrArg (AV.int .i64) (by omega)
               | skip)
    · rw [if_neg h]
      conv => whnf
      repeat' ((first
        | (refine And.intro (fun hb => ?_) (fun hb => ?_) <;> ((try simp only [SB, reduceCtorEq] at hb); try (exfalso; omega)))
        | refine And.intro rfl ?_
        | refine ⟨_, IntWalk.i64_in _ (by omega), ?_⟩
        | rw [ints_at (by omega)]
        | rw [ints_at0 (by omega)]
        | rw [ints_at' (by omega) (by omega)]
        | refine And.intro (lens_all rfl) ?_
        | refine And.intro (show _ ≤ _ ∧ (_ + 1) * _ ≤ _ ∧ _ + 1 ≤ _ by first | omega | (simp; omega)) ?_
        | refine And.intro (show 1 * _ ≤ _ ∧ 1 ≤ _ by omega) ?_
        | refine And.intro (by first | omega | (simp; omega) | (show _ ∧ _; simp; done)) ?_
        | refine ⟨_, _, RPeek_none hs hp h, ?_⟩
        | fail) <;> conv => whnf)
      refine ⟨(), trivial, [some 0, some 1], rfl, rfl, ?_, ?_⟩
      · exact And.intro (And.intro (.inl rfl) (And.intro (.inl rfl) (And.intro (.inl rfl) (And.intro rfl (And.intro (.inl rfl) trivial))))) (And.intro (And.intro rfl rfl) trivial)
      · repeat' (first
          | exact trivial
          | refine ⟨?_, ?_⟩
          | fail)
        all_goals first
          | with_reducible rfl
          | (conv => whnf
             try left
             conv => lhs; whnf
             first
               | rfl
               | exact congrArg (AV.int .i64) (by omega)
               | skip)
  rintro _ -
  refine Aw.meet (α := PR) (fun q => q.sim (rr s (b + 1) 5 r) ∧ r.p ≤ q.p ∧ q.p ≤ s.length ∧ q.l.length + r.p ≤ r.l.length + q.p) (fun _ => [(0, .ptr 0 0 0)]) (fun q => [some (rdO s q.p q.c 2 q.l.length), none, some (.arr 3 (nodeRows q.l))]) ?_ ?_
  · refine vc2_sound hR _ _ _ _ _ ?_
    have hy := byte_le (s.getD r.p 0)
    by_cases h : r.c = 0 ∧ r.p < s.length
    · rw [if_pos h]
      have hc0 := h.1
      have hlt0 := h.2
      conv => whnf
      repeat' ((first
        | (refine And.intro (fun hb => ?_) (fun hb => ?_) <;> ((try simp only [SB, reduceCtorEq] at hb); try (exfalso; omega)))
        | refine And.intro rfl ?_
        | refine ⟨_, IntWalk.i64_in _ (by omega), ?_⟩
        | rw [ints_at (by omega)]
        | rw [ints_at0 (by omega)]
        | rw [ints_at' (by omega) (by omega)]
        | refine And.intro (lens_all rfl) ?_
        | refine And.intro (show _ ≤ _ ∧ (_ + 1) * _ ≤ _ ∧ _ + 1 ≤ _ by first | omega | (simp; omega)) ?_
        | refine And.intro (show 1 * _ ≤ _ ∧ 1 ≤ _ by omega) ?_
        | refine And.intro (by first | omega | (simp; omega) | (show _ ∧ _; simp; done)) ?_
        | (refine ⟨GSkip_mk 40 (by (try dsimp only); omega) (by omega) (by rw [length_nodeRows]; exact Nat.le_refl _) (fun hc h40 hlt => ?_) (fun n40 => ?_)⟩)
        | (refine ⟨GSkip_mk 64 (by (try dsimp only); omega) (by omega) (by rw [length_nodeRows]; exact Nat.le_refl _) (fun hc h64 hlt => ?_) (fun n64 => ?_)⟩)
        | (refine ⟨GSkip_mk 95 (by (try dsimp only); omega) (by omega) (by rw [length_nodeRows]; exact Nat.le_refl _) (fun hc h95 hlt => ?_) (fun n95 => ?_)⟩)
        | (refine ⟨GRdOf_mk (xs0 := [.fn 21 []]) (pre := fits 0 b) (res := fun s r => (rr s b 0 r).close s) ⟨r.p + 1, r.c, r.l⟩ (by omega) (by (try dsimp only); omega) (by (try dsimp only); omega) (by simp only [fits, need, rank]; omega) (fun q a1 a2 a3 a4 => ?_)⟩)
        | refine ⟨GLeaf_mk (by omega) ?_⟩
        | (refine ⟨GFail_mk (by (try dsimp only); omega) (by omega) (by rw [length_nodeRows]; exact Nat.le_refl _) ?_⟩)
        | refine ⟨_, IntWalk.u8_in _ (by omega), ?_⟩
        | fail) <;> conv => whnf)
      · refine ⟨q, ⟨by rw [rr_5b hc h40]; exact a1, by (try dsimp only at *); omega, by (try dsimp only at *); omega, by (try simp only [List.length_append, List.length_cons, List.length_nil] at *); omega⟩, _, rd_cov q rfl rfl rfl ?_⟩
        exact ⟨rfl, trivial⟩
      · refine ⟨(PR.mk (r.p + 1) r.c (r.l ++ [⟨1, 0, 0⟩])), ⟨by rw [rr_5n hc h64]; exact PR.sim_refl _, by (try dsimp only at *); omega, by (try dsimp only at *); omega, by (try simp only [List.length_append, List.length_cons, List.length_nil] at *); omega⟩, _, rd_cov (PR.mk (r.p + 1) r.c (r.l ++ [⟨1, 0, 0⟩])) rfl rfl rfl ?_⟩
        exact ⟨rfl, trivial⟩
      · refine ⟨(PR.mk (r.p + 1) r.c (r.l ++ [⟨2, 0, 0⟩])), ⟨by rw [rr_5e hc h95]; exact PR.sim_refl _, by (try dsimp only at *); omega, by (try dsimp only at *); omega, by (try simp only [List.length_append, List.length_cons, List.length_nil] at *); omega⟩, _, rd_cov (PR.mk (r.p + 1) r.c (r.l ++ [⟨2, 0, 0⟩])) rfl rfl rfl ?_⟩
        exact ⟨rfl, trivial⟩
      · refine ⟨(PR.mk (r.p + 1) r.c (r.l ++ [⟨3, ((s.getD r.p 0).toNat : Int) - 48, 0⟩])), ⟨by rw [rr_5d hc0 hlt0 (by omega) (by omega)]; exact PR.sim_refl _, by (try dsimp only at *); omega, by (try dsimp only at *); omega, by (try simp only [List.length_append, List.length_cons, List.length_nil] at *); omega⟩, _, rd_cov (PR.mk (r.p + 1) r.c (r.l ++ [⟨3, ((s.getD r.p 0).toNat : Int) - 48, 0⟩])) rfl rfl rfl ?_⟩
        exact ⟨rfl, trivial⟩
      · refine ⟨(PR.mk r.p (failC s r.p r.c) r.l), ⟨rr_5f n40 n64 n95 (fun _ hh => by omega), by (try dsimp only at *); omega, by (try dsimp only at *); omega, by (try simp only [List.length_append, List.length_cons, List.length_nil] at *); omega⟩, _, rd_cov (PR.mk r.p (failC s r.p r.c) r.l) rfl rfl rfl ?_⟩
        exact ⟨rfl, trivial⟩
      · refine ⟨(PR.mk r.p (failC s r.p r.c) r.l), ⟨rr_5f n40 n64 n95 (fun _ hh => by omega), by (try dsimp only at *); omega, by (try dsimp only at *); omega, by (try simp only [List.length_append, List.length_cons, List.length_nil] at *); omega⟩, _, rd_cov (PR.mk r.p (failC s r.p r.c) r.l) rfl rfl rfl ?_⟩
        exact ⟨rfl, trivial⟩
    · rw [if_neg h]
      conv => whnf
      repeat' ((first
        | (refine And.intro (fun hb => ?_) (fun hb => ?_) <;> ((try simp only [SB, reduceCtorEq] at hb); try (exfalso; omega)))
        | refine And.intro rfl ?_
        | refine ⟨_, IntWalk.i64_in _ (by omega), ?_⟩
        | rw [ints_at (by omega)]
        | rw [ints_at0 (by omega)]
        | rw [ints_at' (by omega) (by omega)]
        | refine And.intro (lens_all rfl) ?_
        | refine And.intro (show _ ≤ _ ∧ (_ + 1) * _ ≤ _ ∧ _ + 1 ≤ _ by first | omega | (simp; omega)) ?_
        | refine And.intro (show 1 * _ ≤ _ ∧ 1 ≤ _ by omega) ?_
        | refine And.intro (by first | omega | (simp; omega) | (show _ ∧ _; simp; done)) ?_
        | (refine ⟨GSkip_mk 40 (by (try dsimp only); omega) (by omega) (by rw [length_nodeRows]; exact Nat.le_refl _) (fun hc h40 hlt => ?_) (fun n40 => ?_)⟩)
        | (refine ⟨GSkip_mk 64 (by (try dsimp only); omega) (by omega) (by rw [length_nodeRows]; exact Nat.le_refl _) (fun hc h64 hlt => ?_) (fun n64 => ?_)⟩)
        | (refine ⟨GSkip_mk 95 (by (try dsimp only); omega) (by omega) (by rw [length_nodeRows]; exact Nat.le_refl _) (fun hc h95 hlt => ?_) (fun n95 => ?_)⟩)
        | (refine ⟨GRdOf_mk (xs0 := [.fn 21 []]) (pre := fits 0 b) (res := fun s r => (rr s b 0 r).close s) ⟨r.p + 1, r.c, r.l⟩ (by omega) (by (try dsimp only); omega) (by (try dsimp only); omega) (by simp only [fits, need, rank]; omega) (fun q a1 a2 a3 a4 => ?_)⟩)
        | refine ⟨GLeaf_mk (by omega) ?_⟩
        | (refine ⟨GFail_mk (by (try dsimp only); omega) (by omega) (by rw [length_nodeRows]; exact Nat.le_refl _) ?_⟩)
        | refine ⟨_, IntWalk.u8_in _ (by omega), ?_⟩
        | fail) <;> conv => whnf)
      refine ⟨(PR.mk r.p (failC s r.p r.c) r.l), ⟨rr_5f n40 n64 n95 (fun hc hh => h ⟨hc, hh.1⟩), by (try dsimp only at *); omega, by (try dsimp only at *); omega, by (try simp only [List.length_append, List.length_cons, List.length_nil] at *); omega⟩, _, rd_cov (PR.mk r.p (failC s r.p r.c) r.l) rfl rfl rfl ?_⟩
      exact ⟨rfl, trivial⟩
  · rintro q ⟨a1, a2, a3, a4⟩
    refine vc2_sound hR _ _ _ _ _ ?_
    conv => whnf
    repeat' ((first
      | (refine And.intro (fun hb => ?_) (fun hb => ?_) <;> ((try simp only [SB, reduceCtorEq] at hb); try (exfalso; omega)))
      | refine And.intro rfl ?_
      | refine ⟨_, IntWalk.i64_in _ (by omega), ?_⟩
      | rw [ints_at (by omega)]
      | rw [ints_at0 (by omega)]
      | rw [ints_at' (by omega) (by omega)]
      | refine And.intro (lens_all rfl) ?_
      | refine And.intro (show _ ≤ _ ∧ (_ + 1) * _ ≤ _ ∧ _ + 1 ≤ _ by first | omega | (simp; omega)) ?_
      | refine And.intro (show 1 * _ ≤ _ ∧ 1 ≤ _ by omega) ?_
      | refine And.intro (by first | omega | (simp; omega) | (show _ ∧ _; simp; done)) ?_
      | fail) <;> conv => whnf)
    refine Lp.intro (α := Nat × PR) (fun a => s.length ≤ a.2.p + a.1 ∧ r.p ≤ a.2.p ∧ a.2.p ≤ s.length ∧ a.2.l.length + r.p ≤ r.l.length + a.2.p ∧ (stars s a.1 a.2).sim (rr s (b + 2) 2 r)) (fun a => a.1)
      (fun _ => [(0, .ptr 0 0 0)]) (fun a => [some (rdO s a.2.p a.2.c 2 a.2.l.length), none, some (.arr 3 (nodeRows a.2.l))]) ?_ ?_
    · refine ⟨(s.length, q), ⟨by dsimp only; omega, a2, a3, a4, by rw [rr_2]; exact stars_sim a1⟩, _, rd_cov q rfl rfl rfl ?_⟩
      exact ⟨rfl, trivial⟩
    clear a1 a2 a3 a4 q
    rintro ⟨n, q⟩ ⟨a0, a2, a3, a4, a1⟩
    dsimp only at a0 a2 a3 a4 a1 ⊢
    refine vc2_sound hR _ _ _ _ _ ?_
    conv => whnf
    repeat' ((first
      | (refine And.intro (fun hb => ?_) (fun hb => ?_) <;> ((try simp only [SB, reduceCtorEq] at hb); try (exfalso; omega)))
      | refine And.intro rfl ?_
      | refine ⟨_, IntWalk.i64_in _ (by omega), ?_⟩
      | rw [ints_at (by omega)]
      | rw [ints_at0 (by omega)]
      | rw [ints_at' (by omega) (by omega)]
      | refine And.intro (lens_all rfl) ?_
      | refine And.intro (show _ ≤ _ ∧ (_ + 1) * _ ≤ _ ∧ _ + 1 ≤ _ by first | omega | (simp; omega)) ?_
      | refine And.intro (show 1 * _ ≤ _ ∧ 1 ≤ _ by omega) ?_
      | refine And.intro (by first | omega | (simp; omega) | (show _ ∧ _; simp; done)) ?_
      | (refine ⟨GSkip_mk 42 (by (try dsimp only); omega) (by omega) (by rw [length_nodeRows]; exact Nat.le_refl _) (fun hc h42 hlt => ?_) (fun n42 => ?_)⟩)
      | (refine ⟨GOne_mk (by (try dsimp only at *); omega) ?_⟩)
      | fail) <;> conv => whnf)
    · obtain ⟨m, rfl, e⟩ := stars_yes a0 hc h42
      rw [e] at a1
      have a1 : (stars s m (PR.mk (q.p + 1) q.c (q.l ++ [⟨4, (q.l.length : Int) - 1, 0⟩]))).sim (rr s (b + 2) 2 r) := by rw [hc]; exact a1
      refine ⟨(m, PR.mk (q.p + 1) q.c (q.l ++ [⟨4, (q.l.length : Int) - 1, 0⟩])), ⟨by dsimp only; omega, by dsimp only; omega, by dsimp only; omega, by simp only [List.length_append, List.length_cons, List.length_nil]; omega, a1⟩, by dsimp only; omega, _, rd_cov (PR.mk (q.p + 1) q.c (q.l ++ [⟨4, (q.l.length : Int) - 1, 0⟩])) rfl rfl rfl ?_⟩
      exact ⟨rfl, trivial⟩
    · rw [stars_no n42] at a1
      refine ⟨by first | exact .inr rfl | exact .inl rfl, ?_⟩
      conv => whnf
      exact rd_fin q rfl rfl rfl (hq _ a1 a2 a3 a4)

def GRow0 (b : Nat) : GFun := GRdOf [.int .u8 124, .int .i64 6, .fn 30 []] (fits 0 b) (fun s r => rr s b 0 r)

set_option maxHeartbeats 4000000 in
theorem s_row0 {b : Nat} (h : ∀ b', b' < b + 1 → GenSound Tryd.prog 30 2 (GRd b' 1)) : GenSound Tryd.prog 29 2 (GRow0 (b + 1)) := by
  have hR : Rely Tryd.prog (ctxOf [(39, .gen 2 GSkip), (30, .gen 2 (GLt (b + 1) 1)), (40, .gen 2 GTwo)]) :=
    rely_cons b_impl_reader_skip.has s_impl_skip (rely_cons b_impl_reProduct.has (lt_sound h) (rely_cons b_impl_reader_two.has s_impl_read_two (rely_nil mixed)))
  refine gen_of_aw b_impl_reader_row ?_
  rintro xs objs Q - ⟨s, r, rfl, rfl, hs, hp, hl, hf, hq⟩ -
  simp only [fits, need, rank] at hf
  refine ⟨by simp, vc2_sound hR _ _ _ _ _ ?_⟩
  conv => whnf
  repeat' ((first
    | (refine And.intro (fun hb => ?_) (fun hb => ?_) <;> ((try simp only [SB, reduceCtorEq] at hb); try (exfalso; omega)))
    | refine And.intro rfl ?_
    | refine ⟨_, IntWalk.i64_in _ (by omega), ?_⟩
    | rw [ints_at (by omega)]
    | rw [ints_at0 (by omega)]
    | rw [ints_at' (by omega) (by omega)]
    | refine And.intro (lens_all rfl) ?_
    | refine And.intro (show _ ≤ _ ∧ (_ + 1) * _ ≤ _ ∧ _ + 1 ≤ _ by first | omega | (simp; omega)) ?_
    | refine And.intro (show 1 * _ ≤ _ ∧ 1 ≤ _ by omega) ?_
    | refine And.intro (by first | omega | (simp; omega) | (show _ ∧ _; simp; done)) ?_
    | (refine ⟨GLt_mk b r (by omega) (by omega) (by omega) (by omega) (by simp only [fits, need, rank]; omega) (fun q a1 a2 a3 a4 => ?_)⟩)
    | fail) <;> conv => whnf)
  refine Lp.intro (α := Nat × PR) (fun a => a.1 ≤ b ∧ r.p ≤ a.2.p ∧ a.2.p ≤ s.length ∧ a.2.l.length + r.p ≤ r.l.length + a.2.p ∧ (a.2.c = 0 → 8 * (s.length - a.2.p) + 1 ≤ a.1) ∧ (rr s a.1 3 a.2).sim (rr s (b + 1) 0 r)) (fun a => if a.2.c = 0 then s.length + 1 - a.2.p else 0)
    (fun _ => [(0, .ptr 0 0 0), (1, .int .u8 124), (2, .int .i64 6), (3, .fn 30 [])]) (fun a => [some (rdO s a.2.p a.2.c 2 a.2.l.length), none, some (.arr 3 (nodeRows a.2.l))]) ?_ ?_
  · have hc0 := rr_c0 a1
    refine ⟨(b, q), ⟨Nat.le_refl _, a2, a3, a4, fun hc => by dsimp only at hc ⊢; have := hc0 hc; omega, by rw [rr_0]; exact rr_sim a1⟩, _, rd_cov q rfl rfl rfl ?_⟩
    exact ⟨rfl, .inl rfl, .inl rfl, ⟨rfl, trivial⟩, trivial⟩
  clear a1 a2 a3 a4 q
  rintro ⟨b', q⟩ ⟨hb', a2, a3, a4, a5, a1⟩
  dsimp only at hb' a2 a3 a4 a5 a1 ⊢
  refine vc2_sound hR _ _ _ _ _ ?_
  conv => whnf
  repeat' ((first
    | (refine And.intro (fun hb => ?_) (fun hb => ?_) <;> ((try simp only [SB, reduceCtorEq] at hb); try (exfalso; omega)))
    | refine And.intro rfl ?_
    | refine ⟨_, IntWalk.i64_in _ (by omega), ?_⟩
    | rw [ints_at (by omega)]
    | rw [ints_at0 (by omega)]
    | rw [ints_at' (by omega) (by omega)]
    | refine And.intro (lens_all rfl) ?_
    | refine And.intro (show _ ≤ _ ∧ (_ + 1) * _ ≤ _ ∧ _ + 1 ≤ _ by first | omega | (simp; omega)) ?_
    | refine And.intro (show 1 * _ ≤ _ ∧ 1 ≤ _ by omega) ?_
    | refine And.intro (by first | omega | (simp; omega) | (show _ ∧ _; simp; done)) ?_
    | (refine ⟨GSkip_mk 124 (by (try dsimp only); omega) (by omega) (by rw [length_nodeRows]; exact Nat.le_refl _) (fun hc h124 hlt => ?_) (fun n124 => ?_)⟩)
    | (refine ⟨GLt_mk (b' - 1) ⟨q.p + 1, q.c, q.l⟩ (by omega) (by omega) (by (try dsimp only); omega) (by (try dsimp only); omega) (by simp only [fits, need, rank]; omega) (fun t b1 b2 b3 b4 => ?_)⟩)
    | (refine ⟨GTwo_mk (by (try dsimp only at *); omega) ?_⟩)
    | fail) <;> conv => whnf)
  · obtain ⟨d, rfl⟩ : ∃ d, b' = d + 1 := ⟨b' - 1, by omega⟩
    rw [rr_3 hc h124] at a1
    simp only [Nat.add_sub_cancel] at b1
    have hc1 := rr_c0 b1
    dsimp only at b2 b3 b4
    refine ⟨(d, PR.mk t.p t.c (t.l ++ [NodeD.mk 6 ((q.l.length : Int) - 1) ((t.l.length : Int) - 1)])), ⟨by dsimp only; omega, by dsimp only; omega, b3, by simp only [List.length_append, List.length_cons, List.length_nil]; omega, fun _ => by dsimp only; omega, PR.sim_trans (rr_sim (PR.sim_two b1)) a1⟩, by dsimp only; rw [if_pos hc]; split <;> omega, _, rd_cov (PR.mk t.p t.c (t.l ++ [NodeD.mk 6 ((q.l.length : Int) - 1) ((t.l.length : Int) - 1)])) rfl rfl rfl ?_⟩
    exact ⟨rfl, .inl rfl, .inl rfl, ⟨rfl, trivial⟩, trivial⟩
  · rw [rr_3n n124] at a1
    refine ⟨by first | exact .inr rfl | exact .inl rfl, ?_⟩
    conv => whnf
    exact rd_fin q rfl rfl rfl (hq _ a1 a2 a3 a4)

set_option maxHeartbeats 1000000 in
theorem s_re0 {b : Nat} (h : ∀ b', b' < b + 1 → GenSound Tryd.prog 30 2 (GRd b' 1)) : GenSound Tryd.prog 21 2 (GRd (b + 1) 0) := by
  have hR : Rely Tryd.prog (ctxOf [(29, .gen 2 (GRow0 (b + 1)))]) := rely_cons b_impl_reader_row.has (s_row0 h) (rely_nil mixed)
  refine gen_of_aw b_impl_reSum ?_
  rintro xs objs Q - ⟨s, r, rfl, rfl, hs, hp, hl, hf, hq⟩ -
  refine ⟨by simp, vc2_sound hR _ _ _ _ _ ?_⟩
  conv => whnf
  repeat' ((first
    | (refine And.intro (fun hb => ?_) (fun hb => ?_) <;> ((try simp only [SB, reduceCtorEq] at hb); try (exfalso; omega)))
    | refine And.intro rfl ?_
    | refine ⟨_, IntWalk.i64_in _ (by omega), ?_⟩
    | rw [ints_at (by omega)]
    | rw [ints_at0 (by omega)]
    | rw [ints_at' (by omega) (by omega)]
    | refine And.intro (lens_all rfl) ?_
    | refine And.intro (show _ ≤ _ ∧ (_ + 1) * _ ≤ _ ∧ _ + 1 ≤ _ by first | omega | (simp; omega)) ?_
    | refine And.intro (show 1 * _ ≤ _ ∧ 1 ≤ _ by omega) ?_
    | refine And.intro (by first | omega | (simp; omega) | (show _ ∧ _; simp; done)) ?_
    | (refine ⟨GRdOf_mk (xs0 := [.int .u8 124, .int .i64 6, .fn 30 []]) (pre := fits 0 (b + 1)) (res := fun s r => rr s (b + 1) 0 r) r (by omega) (by (try dsimp only); omega) (by (try dsimp only); omega) hf (fun q a1 a2 a3 a4 => ?_)⟩)
    | fail) <;> conv => whnf)
  refine ⟨by first | exact .inr rfl | exact .inl rfl, ?_⟩
  conv => whnf
  exact rd_fin q rfl rfl rfl (hq _ a1 a2 a3 a4)

def GRow1 (b : Nat) : GFun := GRdOf [.int .u8 46, .int .i64 5, .fn 41 []] (fits 1 b) (fun s r => rr s b 1 r)

set_option maxHeartbeats 4000000 in
theorem s_row1 {b : Nat} (h : ∀ b', b' < b + 1 → GenSound Tryd.prog 41 2 (GRd b' 2)) : GenSound Tryd.prog 29 2 (GRow1 (b + 1)) := by
  have hR : Rely Tryd.prog (ctxOf [(39, .gen 2 GSkip), (41, .gen 2 (GLt (b + 1) 2)), (40, .gen 2 GTwo)]) :=
    rely_cons b_impl_reader_skip.has s_impl_skip (rely_cons b_impl_reAtom.has (lt_sound h) (rely_cons b_impl_reader_two.has s_impl_read_two (rely_nil mixed)))
  refine gen_of_aw b_impl_reader_row ?_
  rintro xs objs Q - ⟨s, r, rfl, rfl, hs, hp, hl, hf, hq⟩ -
  simp only [fits, need, rank] at hf
  refine ⟨by simp, vc2_sound hR _ _ _ _ _ ?_⟩
  conv => whnf
  repeat' ((first
    | (refine And.intro (fun hb => ?_) (fun hb => ?_) <;> ((try simp only [SB, reduceCtorEq] at hb); try (exfalso; omega)))
    | refine And.intro rfl ?_
    | refine ⟨_, IntWalk.i64_in _ (by omega), ?_⟩
    | rw [ints_at (by omega)]
    | rw [ints_at0 (by omega)]
    | rw [ints_at' (by omega) (by omega)]
    | refine And.intro (lens_all rfl) ?_
    | refine And.intro (show _ ≤ _ ∧ (_ + 1) * _ ≤ _ ∧ _ + 1 ≤ _ by first | omega | (simp; omega)) ?_
    | refine And.intro (show 1 * _ ≤ _ ∧ 1 ≤ _ by omega) ?_
    | refine And.intro (by first | omega | (simp; omega) | (show _ ∧ _; simp; done)) ?_
    | (refine ⟨GLt_mk b r (by omega) (by omega) (by omega) (by omega) (by simp only [fits, need, rank]; omega) (fun q a1 a2 a3 a4 => ?_)⟩)
    | fail) <;> conv => whnf)
  refine Lp.intro (α := Nat × PR) (fun a => a.1 ≤ b ∧ r.p ≤ a.2.p ∧ a.2.p ≤ s.length ∧ a.2.l.length + r.p ≤ r.l.length + a.2.p ∧ (a.2.c = 0 → 8 * (s.length - a.2.p) + 1 ≤ a.1) ∧ (rr s a.1 4 a.2).sim (rr s (b + 1) 1 r)) (fun a => if a.2.c = 0 then s.length + 1 - a.2.p else 0)
    (fun _ => [(0, .ptr 0 0 0), (1, .int .u8 46), (2, .int .i64 5), (3, .fn 41 [])]) (fun a => [some (rdO s a.2.p a.2.c 2 a.2.l.length), none, some (.arr 3 (nodeRows a.2.l))]) ?_ ?_
  · have hc0 := rr_c0 a1
    refine ⟨(b, q), ⟨Nat.le_refl _, a2, a3, a4, fun hc => by dsimp only at hc ⊢; have := hc0 hc; omega, by rw [rr_1]; exact rr_sim a1⟩, _, rd_cov q rfl rfl rfl ?_⟩
    exact ⟨rfl, .inl rfl, .inl rfl, ⟨rfl, trivial⟩, trivial⟩
  clear a1 a2 a3 a4 q
  rintro ⟨b', q⟩ ⟨hb', a2, a3, a4, a5, a1⟩
  dsimp only at hb' a2 a3 a4 a5 a1 ⊢
  refine vc2_sound hR _ _ _ _ _ ?_
  conv => whnf
  repeat' ((first
    | (refine And.intro (fun hb => ?_) (fun hb => ?_) <;> ((try simp only [SB, reduceCtorEq] at hb); try (exfalso; omega)))
    | refine And.intro rfl ?_
    | refine ⟨_, IntWalk.i64_in _ (by omega), ?_⟩
    | rw [ints_at (by omega)]
    | rw [ints_at0 (by omega)]
    | rw [ints_at' (by omega) (by omega)]
    | refine And.intro (lens_all rfl) ?_
    | refine And.intro (show _ ≤ _ ∧ (_ + 1) * _ ≤ _ ∧ _ + 1 ≤ _ by first | omega | (simp; omega)) ?_
    | refine And.intro (show 1 * _ ≤ _ ∧ 1 ≤ _ by omega) ?_
    | refine And.intro (by first | omega | (simp; omega) | (show _ ∧ _; simp; done)) ?_
    | (refine ⟨GSkip_mk 46 (by (try dsimp only); omega) (by omega) (by rw [length_nodeRows]; exact Nat.le_refl _) (fun hc h46 hlt => ?_) (fun n46 => ?_)⟩)
    | (refine ⟨GLt_mk (b' - 1) ⟨q.p + 1, q.c, q.l⟩ (by omega) (by omega) (by (try dsimp only); omega) (by (try dsimp only); omega) (by simp only [fits, need, rank]; omega) (fun t b1 b2 b3 b4 => ?_)⟩)
    | (refine ⟨GTwo_mk (by (try dsimp only at *); omega) ?_⟩)
    | fail) <;> conv => whnf)
  · obtain ⟨d, rfl⟩ : ∃ d, b' = d + 1 := ⟨b' - 1, by omega⟩
    rw [rr_4 hc h46] at a1
    simp only [Nat.add_sub_cancel] at b1
    have hc1 := rr_c0 b1
    dsimp only at b2 b3 b4
    refine ⟨(d, PR.mk t.p t.c (t.l ++ [NodeD.mk 5 ((q.l.length : Int) - 1) ((t.l.length : Int) - 1)])), ⟨by dsimp only; omega, by dsimp only; omega, b3, by simp only [List.length_append, List.length_cons, List.length_nil]; omega, fun _ => by dsimp only; omega, PR.sim_trans (rr_sim (PR.sim_two b1)) a1⟩, by dsimp only; rw [if_pos hc]; split <;> omega, _, rd_cov (PR.mk t.p t.c (t.l ++ [NodeD.mk 5 ((q.l.length : Int) - 1) ((t.l.length : Int) - 1)])) rfl rfl rfl ?_⟩
    exact ⟨rfl, .inl rfl, .inl rfl, ⟨rfl, trivial⟩, trivial⟩
  · rw [rr_4n n46] at a1
    refine ⟨by first | exact .inr rfl | exact .inl rfl, ?_⟩
    conv => whnf
    exact rd_fin q rfl rfl rfl (hq _ a1 a2 a3 a4)

set_option maxHeartbeats 1000000 in
theorem s_re1 {b : Nat} (h : ∀ b', b' < b + 1 → GenSound Tryd.prog 41 2 (GRd b' 2)) : GenSound Tryd.prog 30 2 (GRd (b + 1) 1) := by
  have hR : Rely Tryd.prog (ctxOf [(29, .gen 2 (GRow1 (b + 1)))]) := rely_cons b_impl_reader_row.has (s_row1 h) (rely_nil mixed)
  refine gen_of_aw b_impl_reProduct ?_
  rintro xs objs Q - ⟨s, r, rfl, rfl, hs, hp, hl, hf, hq⟩ -
  refine ⟨by simp, vc2_sound hR _ _ _ _ _ ?_⟩
  conv => whnf
  repeat' ((first
    | (refine And.intro (fun hb => ?_) (fun hb => ?_) <;> ((try simp only [SB, reduceCtorEq] at hb); try (exfalso; omega)))
    | refine And.intro rfl ?_
    | refine ⟨_, IntWalk.i64_in _ (by omega), ?_⟩
    | rw [ints_at (by omega)]
    | rw [ints_at0 (by omega)]
    | rw [ints_at' (by omega) (by omega)]
    | refine And.intro (lens_all rfl) ?_
    | refine And.intro (show _ ≤ _ ∧ (_ + 1) * _ ≤ _ ∧ _ + 1 ≤ _ by first | omega | (simp; omega)) ?_
    | refine And.intro (show 1 * _ ≤ _ ∧ 1 ≤ _ by omega) ?_
    | refine And.intro (by first | omega | (simp; omega) | (show _ ∧ _; simp; done)) ?_
    | (refine ⟨GRdOf_mk (xs0 := [.int .u8 46, .int .i64 5, .fn 41 []]) (pre := fits 1 (b + 1)) (res := fun s r => rr s (b + 1) 1 r) r (by omega) (by (try dsimp only); omega) (by (try dsimp only); omega) hf (fun q a1 a2 a3 a4 => ?_)⟩)
    | fail) <;> conv => whnf)
  refine ⟨by first | exact .inr rfl | exact .inl rfl, ?_⟩
  conv => whnf
  exact rd_fin q rfl rfl rfl (hq _ a1 a2 a3 a4)

theorem s_all : ∀ b, GenSound Tryd.prog 21 2 (GRd b 0) ∧ GenSound Tryd.prog 30 2 (GRd b 1) ∧ GenSound Tryd.prog 41 2 (GRd b 2) := by
  intro b
  induction b using Nat.strongRecOn with
  | _ b ih =>
    rcases b with _ | _ | b
    · refine ⟨?_, ?_, ?_⟩ <;> rintro w own0 π objs xs vs Q hl hs hr ⟨s, r, rfl, rfl, h1, h2, h3, ⟨h4, h5⟩, hq⟩ <;> (simp only [rank] at h4; omega)
    · refine ⟨?_, ?_, ?_⟩ <;> rintro w own0 π objs xs vs Q hl hs hr ⟨s, r, rfl, rfl, h1, h2, h3, ⟨h4, h5⟩, hq⟩ <;> (simp only [rank] at h4; omega)
    · exact ⟨s_re0 (fun b' hb => (ih b' hb).2.1), s_re1 (fun b' hb => (ih b' hb).2.2), s_reAtom (ih b (by omega)).1⟩

end Go.Proofs.YtpfbkblgefddlaaDoor.Ct
