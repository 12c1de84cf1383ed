/- The law that the program reads words as the reference does. -/
import Derived.Test.YtpfbkblgefddlaaCtRead2
import Derived.Test.YtpfbkblgefddlaaCtMark
namespace Go.Proofs.Ytpfbkblgefddlaa.Ct
set_option linter.unusedSimpArgs false
set_option linter.unusedVariables false
open Go Go.Proofs Go.Proofs.Ytpfbkblgefddlaa.Av

/-! ### the plain law -/

theorem pieces_none {c : UInt8} : ∀ {s : List UInt8}, (∀ b ∈ s, b ≠ c) → pieces c s = [s]
  | [], _ => rfl
  | b :: r, h => by
    rw [pieces, if_neg (h b (by simp)), pieces_none (fun x hx => h x (by simp [hx]))]
    rfl

theorem pieces_cut {c : UInt8} : ∀ {a b : List UInt8}, (∀ x ∈ a, x ≠ c) → pieces c (a ++ c :: b) = a :: pieces c b
  | [], b, _ => by simp [pieces]
  | x :: a, b, h => by
    rw [List.cons_append, pieces, if_neg (h x (by simp)), pieces_cut (fun y hy => h y (by simp [hy]))]
    rfl

theorem pieces_sign {c : UInt8} : ∀ {s : List UInt8} {p : List UInt8}, pieces c s = [p] → ∀ b ∈ s, b ≠ c
  | [], _, _, b, hb => by cases hb
  | x :: r, p, h, b, hb => by
    rw [pieces] at h
    split at h
    · rename_i hx
      have := congrArg List.length h
      have h2 := pieces_ne c r
      cases hp : pieces c r with
      | nil => exact absurd hp h2
      | cons q l => rw [hp] at this; simp at this
    · rename_i hx
      cases hp : pieces c r with
      | nil => exact absurd hp (pieces_ne c r)
      | cons q l =>
        rw [hp] at h
        simp only [ahead, List.cons.injEq] at h
        obtain ⟨_, rfl⟩ := h
        rcases List.mem_cons.1 hb with rfl | hb
        · exact hx
        · exact pieces_sign hp b hb

theorem not_letters_sign {b : List UInt8} (h : (59 : UInt8) ∈ b) : lettersB (nums b) 8 = false := by
  rw [Bool.eq_false_iff]
  intro ht
  simp only [lettersB, nums, List.all_eq_true, List.mem_map, decide_eq_true_eq] at ht
  have := ht 11 ⟨59, h, by decide⟩
  omega

theorem read_same (s : List UInt8) : readI s = readS s := by
  unfold readI readS cutAt
  by_cases hi : Lib.indexByte s 59 < 0
  · have hge := Lib.indexByte_ge s 59
    have h1 : Lib.indexByte s 59 = -1 := by omega
    have hno := Lib.indexByte_none h1
    have hp : pieces 59 s = [s] := pieces_none (fun b hb he => by
      obtain ⟨k, hk⟩ := List.getElem?_of_mem hb
      exact hno k (he ▸ hk))
    rw [if_pos hi, hp]
    simp [wordBack]
  · rw [if_neg hi]
    obtain ⟨h1, h2⟩ := Lib.indexByte_some (l := s) (c := 59) (o := (Lib.indexByte s 59).toNat) (by omega)
    generalize (Lib.indexByte s 59).toNat = o at h1 h2
    have hlt := (List.getElem?_eq_some_iff.1 h1).1
    have hs : s = s.take o ++ 59 :: s.drop (o + 1) := by
      conv => lhs; rw [← List.take_append_drop o s, List.drop_eq_getElem_cons hlt]
      have := (List.getElem?_eq_some_iff.1 h1).2
      rw [this]
    have hno : ∀ x ∈ s.take o, x ≠ 59 := by
      intro x hx he
      obtain ⟨k, hk⟩ := List.getElem?_of_mem hx
      rw [List.getElem?_take] at hk
      split at hk
      · rename_i hko; exact h2 k hko (he ▸ hk)
      · cases hk
    have hp : pieces 59 s = s.take o :: pieces 59 (s.drop (o + 1)) := by
      conv => lhs; rw [hs]
      exact pieces_cut hno
    have hlen : s.length = (s.take o).length + 1 + (s.drop (o + 1)).length := by
      conv => lhs; rw [hs]
      simp; omega
    rw [hp]
    simp only [Bool.true_and]
    by_cases hd : (59 : UInt8) ∈ s.drop (o + 1)
    · have hf := not_letters_sign hd
      have hw : wordOk (nums (s.take o)) (nums (s.drop (o + 1))) 8 = false := by simp [wordOk, hf]
      split
      · simp [wordBack, hw]
      · split
        · rename_i a b hab
          simp only [List.cons.injEq] at hab
          have := pieces_sign hab.2 59 hd
          exact absurd rfl this
        · simp [wordBack, hw]
    · have hpd : pieces 59 (s.drop (o + 1)) = [s.drop (o + 1)] := pieces_none (fun b hb he => hd (he ▸ hb))
      rw [hpd]
      split
      · rename_i hbig
        have hw : wordOk (nums (s.take o)) (nums (s.drop (o + 1))) 8 = false := by
          rw [Bool.eq_false_iff]
          intro ht
          obtain ⟨k1, _, k2, _⟩ := wordOk_parts ht
          rw [length_nums] at k1 k2
          omega
        simp [wordBack, hw]
      · rfl

/-! ### the law -/

def c_laws_FnExactWordRead : ICode := (.seq (.reg [⟨(some 2), .mv, [(.c (.bool false))], none⟩]) (.seq (.seq (.reg [⟨(some 11), .mv, [(.t 0)], none⟩, ⟨(some 12), .lens, [(.t 11)], none⟩, ⟨(some 13), (.bin .gtr), [(.t 12), (.c (.int .i64 1048576))], none⟩]) (.cond (.t 13) (.seq (.reg [⟨(some 2), .mv, [(.c (.bool true))], none⟩]) .ret) .skip)) (.seq (.reg [⟨(some 15), .mv, [(.t 0)], none⟩, ⟨(some 16), (.call 23), [(.t 15)], none⟩, ⟨(some 14), .mv, [(.t 16)], none⟩, ⟨(some 17), (.ext 0), [(.t 14)], none⟩, ⟨(some 18), (.ext 1), [(.t 14)], none⟩, ⟨(some 3), (.alc [.snil, .snil]), [], none⟩, ⟨none, (.st 2), [(.t 3), (.t 17)], none⟩, ⟨(some 4), .mv, [(.t 18)], none⟩]) (.seq (.reg [⟨(some 20), .mv, [(.t 0)], none⟩, ⟨(some 21), (.call 24), [(.t 20)], none⟩, ⟨(some 19), .mv, [(.t 21)], none⟩, ⟨(some 22), (.ext 0), [(.t 19)], none⟩, ⟨(some 23), (.ext 1), [(.t 19)], none⟩, ⟨(some 5), (.alc [.snil, .snil]), [], none⟩, ⟨none, (.st 2), [(.t 5), (.t 22)], none⟩, ⟨(some 6), .mv, [(.t 23)], none⟩]) (.seq (.seq (.reg [⟨(some 24), (.ldn 2), [(.t 5)], none⟩, ⟨(some 25), (.ldn 2), [(.t 3)], none⟩, ⟨(some 26), (.call 17), [(.t 24), (.t 25)], none⟩, ⟨(some 27), .not, [(.t 26)], none⟩, ⟨(some 28), .mv, [(.t 27)], none⟩, ⟨(some 29), .mv, [(.t 6)], (some (28, false))⟩, ⟨(some 30), .mv, [(.t 4)], (some (28, false))⟩, ⟨(some 31), (.beq true), [(.t 29), (.t 30)], (some (28, false))⟩, ⟨(some 32), .pick, [(.t 28), (.c (.bool true)), (.t 31)], none⟩]) (.cond (.t 32) (.seq (.reg [⟨(some 2), .mv, [(.c (.bool false))], none⟩]) .ret) .skip)) (.seq (.reg [⟨(some 7), .mv, [(.c (.int .i64 1))], none⟩]) (.seq (.reg [⟨(some 33), (.ldn 2), [(.t 5)], none⟩, ⟨(some 34), .mv, [(.t 7)], none⟩, ⟨(some 35), (.call 25), [(.t 33), (.t 34)], none⟩, ⟨(some 7), .mv, [(.t 35)], none⟩]) (.seq (.reg [⟨(some 8), .mv, [(.c (.int .i64 1))], none⟩]) (.seq (.reg [⟨(some 36), (.ldn 2), [(.t 5)], none⟩, ⟨(some 37), .mv, [(.t 8)], none⟩, ⟨(some 38), (.call 26), [(.t 36), (.t 37)], none⟩, ⟨(some 8), .mv, [(.t 38)], none⟩]) (.seq (.seq (.reg [⟨(some 39), .mv, [(.t 8)], none⟩, ⟨(some 40), (.bin .lss), [(.t 39), (.c (.int .i64 0))], none⟩]) (.cond (.t 40) (.seq (.reg [⟨(some 2), .mv, [(.c (.bool false))], none⟩]) .ret) .skip)) (.seq (.seq (.reg [⟨(some 41), .mv, [(.t 8)], none⟩, ⟨(some 42), .mv, [(.t 7)], none⟩, ⟨(some 43), (.bin .neq), [(.t 41), (.t 42)], none⟩]) (.cond (.t 43) (.seq (.reg [⟨(some 2), .mv, [(.c (.bool false))], none⟩]) .ret) .skip)) (.seq (.reg [⟨(some 45), .mv, [(.t 0)], none⟩, ⟨(some 46), (.call 24), [(.t 45)], none⟩, ⟨(some 44), .mv, [(.t 46)], none⟩, ⟨(some 47), (.ext 0), [(.t 44)], none⟩, ⟨(some 48), (.ext 1), [(.t 44)], none⟩, ⟨(some 9), (.alc [.snil, .snil]), [], none⟩, ⟨none, (.st 2), [(.t 9), (.t 47)], none⟩, ⟨(some 10), .mv, [(.t 48)], none⟩]) (.seq (.seq (.reg [⟨(some 49), (.ldn 2), [(.t 9)], none⟩, ⟨(some 50), (.ldn 2), [(.t 3)], none⟩, ⟨(some 51), (.call 17), [(.t 49), (.t 50)], none⟩, ⟨(some 52), .not, [(.t 51)], none⟩, ⟨(some 53), .mv, [(.t 52)], none⟩, ⟨(some 54), .mv, [(.t 10)], (some (53, false))⟩, ⟨(some 55), .mv, [(.t 4)], (some (53, false))⟩, ⟨(some 56), (.beq true), [(.t 54), (.t 55)], (some (53, false))⟩, ⟨(some 57), .pick, [(.t 53), (.c (.bool true)), (.t 56)], none⟩]) (.cond (.t 57) (.seq (.reg [⟨(some 2), .mv, [(.c (.bool false))], none⟩]) .ret) .skip)) (.seq (.reg [⟨(some 8), .mv, [(.c (.int .i64 1))], none⟩]) (.seq (.reg [⟨(some 58), (.ldn 2), [(.t 5)], none⟩, ⟨(some 59), .mv, [(.t 8)], none⟩, ⟨(some 60), (.call 26), [(.t 58), (.t 59)], none⟩, ⟨(some 8), .mv, [(.t 60)], none⟩]) (.seq (.seq (.reg [⟨(some 61), .mv, [(.t 8)], none⟩, ⟨(some 62), (.bin .lss), [(.t 61), (.c (.int .i64 0))], none⟩]) (.cond (.t 62) (.seq (.reg [⟨(some 2), .mv, [(.c (.bool false))], none⟩]) .ret) .skip)) (.seq (.seq (.reg [⟨(some 63), .mv, [(.t 8)], none⟩, ⟨(some 64), .mv, [(.t 7)], none⟩, ⟨(some 65), (.bin .neq), [(.t 63), (.t 64)], none⟩]) (.cond (.t 65) (.seq (.reg [⟨(some 2), .mv, [(.c (.bool false))], none⟩]) .ret) .skip)) (.seq (.reg [⟨(some 2), .mv, [(.c (.bool true))], none⟩]) .ret))))))))))))))))))
theorem b_laws_FnExactWordRead : Body Try.prog 5 66 c_laws_FnExactWordRead [(.t 2)] := by
  have h1 : comp Try.prog 66 (Try.f5.body.getD .skip) = some c_laws_FnExactWordRead := by kernel_rfl
  have h2 : Try.f5.body = some (Try.f5.body.getD .skip) := by kernel_rfl
  have h3 : Try.f5.results.toList.map (cRes Try.prog) = [(some (.t 2))] := by kernel_rfl
  exact ⟨_, _, Try.func5, h2, Try.ntmps5, h1, h3, by decide⟩


def RTrueStr (xs : List AV) (r : AV) (objs : List AObj) : Prop := ∃ s, xs = [.str s] ∧ s.length ≤ 9223372036854775807 ∧ r = .bool true ∧ objs = []

theorem read_small (s : List UInt8) : (readS s).1.length ≤ 40 ∧ (readS s).2.1.length ≤ 40 := by
  unfold readS
  split
  · simp
  · split
    · rename_i a b _
      unfold wordBack
      split
      · rename_i h
        simp only [Bool.and_eq_true] at h
        obtain ⟨k1, _, k2, _⟩ := wordOk_parts h.2
        exact ⟨k1, k2⟩
      · simp
    · simp

theorem RHeldWord_marks {xs : List AV} {k : Int} {n m : Nat} (h : xs = [word (marks k n) (marks (k + n) m), .int .i64 k]) (h1 : n ≤ 1073741824) (h2 : m ≤ 1073741824) (h3 : 0 ≤ k ∧ k ≤ 1073741824) : RHeldWord xs (.int .i64 (k + n + m)) [] := by
  have := RHeldWord_eq h (by rw [length_marks]; exact h1) (by rw [length_marks]; exact h2) h3.1 h3.2
  rwa [heldW_marks k n m h3.1] at this

set_option maxHeartbeats 4000000 in
theorem s_laws_FnExactWordRead : PureSound Try.prog 5 RTrueStr := by
  have hR : Rely Try.prog (ctxOf [(23, .pure RWordReadS), (24, .pure RWordReadI), (17, .pure REqWord), (25, .gen 2 GMarkWord), (26, .pure RHeldWord)]) :=
    rely_cons b_spec_WordRead.has s_spec_WordRead (rely_cons b_impl_WordRead.has s_impl_WordRead (rely_cons b_laws_eqWord.has s_laws_eqWord (rely_cons b_laws_markWord.has s_laws_markWord (rely_cons b_laws_heldWord.has s_laws_heldWord (rely_nil mixed)))))
  refine pure_of_aw b_laws_FnExactWordRead ?_
  rintro xs r objs ⟨s, rfl, hl, rfl, rfl⟩ -
  refine ⟨by simp, vc2_sound hR _ _ _ _ _ ?_⟩
  conv => whnf
  repeat' (first
    | contradiction
    | (refine And.intro (fun hb => ?_) (fun hb => ?_) <;> first | contradiction | skip
       all_goals (try simp only [decide_eq_true_eq, decide_eq_false_iff_not, Bool.not_eq_true', Bool.not_eq_false', Bool.not_not, ne_eq, length_ints, List.length_map, beq_iff_eq, bne_iff_ne, beq_eq_false_iff_ne, bne_eq_false_iff_eq, Int.not_le, Int.not_lt, ge_iff_le, gt_iff_lt, reduceCtorEq, not_false_eq_true, not_true_eq_false, Bool.false_eq_true, Bool.true_eq_false] at hb)
       all_goals (try (exfalso; first | contradiction | omega))
       all_goals conv => whnf)
    | (refine And.intro (live_all rfl) ?_; conv => whnf)
    | (refine And.intro rfl ?_; conv => whnf)
    | (refine ⟨_, IntWalk.i64_in _ (by omega), ?_⟩; conv => whnf)
    | (refine And.intro (okcs_all rfl) ?_; conv => whnf)
    | (refine And.intro (okvs_all rfl) ?_; conv => whnf)
    | (refine And.intro (frees_all rfl) ?_; conv => whnf)
    | (refine And.intro (bsl_all rfl) ?_; conv => whnf)
    | (refine And.intro (lens_all rfl) ?_; conv => whnf)
    | (refine And.intro (Nat.le_of_ble_eq_true rfl) ?_; conv => whnf)
    | (rw [ints_at (by omega)]; conv => whnf)
    | (rw [ints_at0 (by omega)]; conv => whnf)
    | (rw [ints_at' (by omega) (by omega)]; conv => whnf)
    | (refine And.intro (show (_ + 1) * _ ≤ _ by omega) ?_; conv => whnf)
    | (refine And.intro (show _ + 1 ≤ _ by omega) ?_; conv => whnf)
    | (refine And.intro (by first | omega | (simp only [length_ints]; omega)) ?_; conv => whnf)
    | fail)
  · refine ⟨.inl rfl, ?_⟩
    conv => whnf
    refine ⟨[], ⟨rfl, trivial⟩, ?_, rfl, rfl⟩
    conv => whnf
    left
    conv => lhs; whnf
  · have hsame := read_same s
    have hsm := read_small s
    obtain ⟨a, b, ok, hab⟩ : ∃ a b ok, readS s = (a, b, ok) := ⟨_, _, _, rfl⟩
    rw [hab] at hsm hsame
    have r1 : RWordReadS [.str s] (readR (a, b, ok)) (readO (a, b, ok)) := by rw [← hab]; exact RWordReadS_mk (by omega)
    have r2 : RWordReadI [.str s] (readR (a, b, ok)) (readO (a, b, ok)) := by rw [← hsame]; exact RWordReadI_mk (by omega)
    simp only [] at hsm
    have la : a.length ≤ 1073741824 := by omega
    have lb : b.length ≤ 1073741824 := by omega
    cases ok
    all_goals
      conv => whnf
      repeat' (first
        | contradiction
        | (refine And.intro (fun hb => ?_) (fun hb => ?_) <;> first | contradiction | skip
           all_goals (try simp only [decide_eq_true_eq, decide_eq_false_iff_not, Bool.not_eq_true', Bool.not_eq_false', Bool.not_not, ne_eq, length_ints, List.length_map, beq_iff_eq, bne_iff_ne, beq_eq_false_iff_ne, bne_eq_false_iff_eq, Int.not_le, Int.not_lt, ge_iff_le, gt_iff_lt, reduceCtorEq, not_false_eq_true, not_true_eq_false, Bool.false_eq_true, Bool.true_eq_false] at hb)
           all_goals (try (exfalso; first | contradiction | omega))
           all_goals conv => whnf)
        | (refine And.intro (live_all rfl) ?_; conv => whnf)
        | (refine And.intro rfl ?_; conv => whnf)
        | (refine ⟨_, IntWalk.i64_in _ (by omega), ?_⟩; conv => whnf)
        | (refine And.intro (okcs_all rfl) ?_; conv => whnf)
        | (refine And.intro (okvs_all rfl) ?_; conv => whnf)
        | (refine And.intro (frees_all rfl) ?_; conv => whnf)
        | (refine And.intro (bsl_all rfl) ?_; conv => whnf)
        | (refine And.intro (lens_all rfl) ?_; conv => whnf)
        | (refine And.intro (Nat.le_of_ble_eq_true rfl) ?_; conv => whnf)
        | (rw [ints_at (by omega)]; conv => whnf)
        | (rw [ints_at0 (by omega)]; conv => whnf)
        | (rw [ints_at' (by omega) (by omega)]; conv => whnf)
        | (refine And.intro (show (_ + 1) * _ ≤ _ by omega) ?_; conv => whnf)
        | (refine And.intro (show _ + 1 ≤ _ by omega) ?_; conv => whnf)
        | (refine And.intro (by first | omega | (simp only [length_ints]; omega)) ?_; conv => whnf)
        | (refine ⟨_, _, r1, ?_⟩; conv => whnf)
        | (refine ⟨_, _, r2, ?_⟩; conv => whnf)
        | fail)
      refine ⟨_, _, REqWord_eq (s := a) (l := b) (s' := a) (l' := b) (by repeat' (first | exact rfl | refine args_cons ?_ ?_ | refine snap_agg ?_ | refine cells_cons ?_ ?_ | exact snap1_all rfl (by first | (simp only [length_ints]; done) | simp [ints, marks]) | exact snap_all rfl (by first | (simp only [length_ints]; done) | simp [ints, marks]) | exact snap1_all2 rfl (by first | (simp only [length_ints]; done) | simp [ints, marks]) | fail)), ?_⟩
      conv => whnf
      repeat' (first
        | contradiction
        | (refine And.intro (fun hb => ?_) (fun hb => ?_) <;> first | contradiction | skip
           all_goals (try simp only [decide_eq_true_eq, decide_eq_false_iff_not, Bool.not_eq_true', Bool.not_eq_false', Bool.not_not, ne_eq, length_ints, List.length_map, beq_iff_eq, bne_iff_ne, beq_eq_false_iff_ne, bne_eq_false_iff_eq, Int.not_le, Int.not_lt, ge_iff_le, gt_iff_lt, reduceCtorEq, not_false_eq_true, not_true_eq_false, Bool.false_eq_true, Bool.true_eq_false] at hb)
           all_goals (try (exfalso; first | contradiction | omega))
           all_goals conv => whnf)
        | (refine And.intro (live_all rfl) ?_; conv => whnf)
        | (refine And.intro rfl ?_; conv => whnf)
        | (refine ⟨_, IntWalk.i64_in _ (by omega), ?_⟩; conv => whnf)
        | (refine And.intro (okcs_all rfl) ?_; conv => whnf)
        | (refine And.intro (okvs_all rfl) ?_; conv => whnf)
        | (refine And.intro (frees_all rfl) ?_; conv => whnf)
        | (refine And.intro (bsl_all rfl) ?_; conv => whnf)
        | (refine And.intro (lens_all rfl) ?_; conv => whnf)
        | (refine And.intro (Nat.le_of_ble_eq_true rfl) ?_; conv => whnf)
        | (rw [ints_at (by omega)]; conv => whnf)
        | (rw [ints_at0 (by omega)]; conv => whnf)
        | (rw [ints_at' (by omega) (by omega)]; conv => whnf)
        | (refine And.intro (show (_ + 1) * _ ≤ _ by omega) ?_; conv => whnf)
        | (refine And.intro (show _ + 1 ≤ _ by omega) ?_; conv => whnf)
        | (refine And.intro (by first | omega | (simp only [length_ints]; omega)) ?_; conv => whnf)
        | (refine ⟨GMarkWord_mk la lb (by omega) (by omega) ?_⟩; conv => whnf)
        | fail)
      refine ⟨_, _, RHeldWord_marks (k := 1) (n := a.length) (m := b.length) (by repeat' (first | exact rfl | refine args_cons ?_ ?_ | refine snap_agg ?_ | refine cells_cons ?_ ?_ | exact snap1_all rfl (by first | (simp only [length_ints]; done) | simp [ints, marks]) | exact snap_all rfl (by first | (simp only [length_ints]; done) | simp [ints, marks]) | exact snap1_all2 rfl (by first | (simp only [length_ints]; done) | simp [ints, marks]) | fail)) (by omega) (by omega) (by omega), ?_⟩
      conv => whnf
      repeat' (first
        | contradiction
        | (refine And.intro (fun hb => ?_) (fun hb => ?_) <;> first | contradiction | skip
           all_goals (try simp only [decide_eq_true_eq, decide_eq_false_iff_not, Bool.not_eq_true', Bool.not_eq_false', Bool.not_not, ne_eq, length_ints, List.length_map, beq_iff_eq, bne_iff_ne, beq_eq_false_iff_ne, bne_eq_false_iff_eq, Int.not_le, Int.not_lt, ge_iff_le, gt_iff_lt, reduceCtorEq, not_false_eq_true, not_true_eq_false, Bool.false_eq_true, Bool.true_eq_false] at hb)
           all_goals (try (exfalso; first | contradiction | omega))
           all_goals conv => whnf)
        | (refine And.intro (live_all rfl) ?_; conv => whnf)
        | (refine And.intro rfl ?_; conv => whnf)
        | (refine ⟨_, IntWalk.i64_in _ (by omega), ?_⟩; conv => whnf)
        | (refine And.intro (okcs_all rfl) ?_; conv => whnf)
        | (refine And.intro (okvs_all rfl) ?_; conv => whnf)
        | (refine And.intro (frees_all rfl) ?_; conv => whnf)
        | (refine And.intro (bsl_all rfl) ?_; conv => whnf)
        | (refine And.intro (lens_all rfl) ?_; conv => whnf)
        | (refine And.intro (Nat.le_of_ble_eq_true rfl) ?_; conv => whnf)
        | (rw [ints_at (by omega)]; conv => whnf)
        | (rw [ints_at0 (by omega)]; conv => whnf)
        | (rw [ints_at' (by omega) (by omega)]; conv => whnf)
        | (refine And.intro (show (_ + 1) * _ ≤ _ by omega) ?_; conv => whnf)
        | (refine And.intro (show _ + 1 ≤ _ by omega) ?_; conv => whnf)
        | (refine And.intro (by first | omega | (simp only [length_ints]; omega)) ?_; conv => whnf)
        | (refine ⟨_, _, r2, ?_⟩; conv => whnf)
        | fail)
      refine ⟨_, _, REqWord_eq (s := a) (l := b) (s' := a) (l' := b) (by repeat' (first | exact rfl | refine args_cons ?_ ?_ | refine snap_agg ?_ | refine cells_cons ?_ ?_ | exact snap1_all rfl (by first | (simp only [length_ints]; done) | simp [ints, marks]) | exact snap_all rfl (by first | (simp only [length_ints]; done) | simp [ints, marks]) | exact snap1_all2 rfl (by first | (simp only [length_ints]; done) | simp [ints, marks]) | fail)), ?_⟩
      conv => whnf
      repeat' (first
        | contradiction
        | (refine And.intro (fun hb => ?_) (fun hb => ?_) <;> first | contradiction | skip
           all_goals (try simp only [decide_eq_true_eq, decide_eq_false_iff_not, Bool.not_eq_true', Bool.not_eq_false', Bool.not_not, ne_eq, length_ints, List.length_map, beq_iff_eq, bne_iff_ne, beq_eq_false_iff_ne, bne_eq_false_iff_eq, Int.not_le, Int.not_lt, ge_iff_le, gt_iff_lt, reduceCtorEq, not_false_eq_true, not_true_eq_false, Bool.false_eq_true, Bool.true_eq_false] at hb)
           all_goals (try (exfalso; first | contradiction | omega))
           all_goals conv => whnf)
        | (refine And.intro (live_all rfl) ?_; conv => whnf)
        | (refine And.intro rfl ?_; conv => whnf)
        | (refine ⟨_, IntWalk.i64_in _ (by omega), ?_⟩; conv => whnf)
        | (refine And.intro (okcs_all rfl) ?_; conv => whnf)
        | (refine And.intro (okvs_all rfl) ?_; conv => whnf)
        | (refine And.intro (frees_all rfl) ?_; conv => whnf)
        | (refine And.intro (bsl_all rfl) ?_; conv => whnf)
        | (refine And.intro (lens_all rfl) ?_; conv => whnf)
        | (refine And.intro (Nat.le_of_ble_eq_true rfl) ?_; conv => whnf)
        | (rw [ints_at (by omega)]; conv => whnf)
        | (rw [ints_at0 (by omega)]; conv => whnf)
        | (rw [ints_at' (by omega) (by omega)]; conv => whnf)
        | (refine And.intro (show (_ + 1) * _ ≤ _ by omega) ?_; conv => whnf)
        | (refine And.intro (show _ + 1 ≤ _ by omega) ?_; conv => whnf)
        | (refine And.intro (by first | omega | (simp only [length_ints]; omega)) ?_; conv => whnf)
        | fail)
      refine ⟨_, _, RHeldWord_marks (k := 1) (n := a.length) (m := b.length) (by repeat' (first | exact rfl | refine args_cons ?_ ?_ | refine snap_agg ?_ | refine cells_cons ?_ ?_ | exact snap1_all rfl (by first | (simp only [length_ints]; done) | simp [ints, marks]) | exact snap_all rfl (by first | (simp only [length_ints]; done) | simp [ints, marks]) | exact snap1_all2 rfl (by first | (simp only [length_ints]; done) | simp [ints, marks]) | fail)) (by omega) (by omega) (by omega), ?_⟩
      conv => whnf
      repeat' (first
        | contradiction
        | (refine And.intro (fun hb => ?_) (fun hb => ?_) <;> first | contradiction | skip
           all_goals (try simp only [decide_eq_true_eq, decide_eq_false_iff_not, Bool.not_eq_true', Bool.not_eq_false', Bool.not_not, ne_eq, length_ints, List.length_map, beq_iff_eq, bne_iff_ne, beq_eq_false_iff_ne, bne_eq_false_iff_eq, Int.not_le, Int.not_lt, ge_iff_le, gt_iff_lt, reduceCtorEq, not_false_eq_true, not_true_eq_false, Bool.false_eq_true, Bool.true_eq_false] at hb)
           all_goals (try (exfalso; first | contradiction | omega))
           all_goals conv => whnf)
        | (refine And.intro (live_all rfl) ?_; conv => whnf)
        | (refine And.intro rfl ?_; conv => whnf)
        | (refine ⟨_, IntWalk.i64_in _ (by omega), ?_⟩; conv => whnf)
        | (refine And.intro (okcs_all rfl) ?_; conv => whnf)
        | (refine And.intro (okvs_all rfl) ?_; conv => whnf)
        | (refine And.intro (frees_all rfl) ?_; conv => whnf)
        | (refine And.intro (bsl_all rfl) ?_; conv => whnf)
        | (refine And.intro (lens_all rfl) ?_; conv => whnf)
        | (refine And.intro (Nat.le_of_ble_eq_true rfl) ?_; conv => whnf)
        | (rw [ints_at (by omega)]; conv => whnf)
        | (rw [ints_at0 (by omega)]; conv => whnf)
        | (rw [ints_at' (by omega) (by omega)]; conv => whnf)
        | (refine And.intro (show (_ + 1) * _ ≤ _ by omega) ?_; conv => whnf)
        | (refine And.intro (show _ + 1 ≤ _ by omega) ?_; conv => whnf)
        | (refine And.intro (by first | omega | (simp only [length_ints]; omega)) ?_; conv => whnf)
        | fail)
      refine ⟨.inl rfl, ?_⟩
      conv => whnf
      refine ⟨[], ⟨rfl, trivial⟩, ?_, rfl, rfl⟩
      conv => whnf
      left
      conv => lhs; whnf

end Go.Proofs.Ytpfbkblgefddlaa.Ct
