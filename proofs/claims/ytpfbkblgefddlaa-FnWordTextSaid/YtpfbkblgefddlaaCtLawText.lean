/- The law that words are read from their texts as they were. -/
import Derived.Test.YtpfbkblgefddlaaCtLawRead
import Derived.Test.YtpfbkblgefddlaaCtDraw4
namespace Go.Proofs.Ytpfbkblgefddlaa.Ct
set_option linter.unusedSimpArgs false
set_option linter.unusedVariables false
open Go Go.Proofs Go.Proofs.Ytpfbkblgefddlaa.Av

/-! ### the plain law -/

theorem letters_mem {l : List Int} (h : lettersB l 8 = true) : ∀ x ∈ l, 0 ≤ x ∧ x ≤ 7 := by
  intro x hx
  simp only [lettersB, List.all_eq_true, decide_eq_true_eq] at h
  have := h x hx
  omega

theorem nums_digits {l : List Int} (h : lettersB l 8 = true) : nums (digitsB l) = l := by
  have hm := letters_mem h
  unfold nums digitsB
  rw [List.map_map]
  conv => rhs; rw [← List.map_id l]
  refine List.map_congr_left fun x hx => ?_
  obtain ⟨h0, h1⟩ := hm x hx
  simp only [Function.comp, id]
  rw [digitB_cell h0 (by omega)]
  omega

theorem digits_nums {p : List UInt8} (h : lettersB (nums p) 8 = true) : digitsB (nums p) = p := by
  have hm := letters_mem h
  unfold digitsB
  conv => rhs; rw [← List.map_id p]
  unfold nums at hm ⊢
  rw [List.map_map]
  refine List.map_congr_left fun b hb => ?_
  obtain ⟨h0, h1⟩ := hm ((b.toNat : Int) - 48) (List.mem_map.2 ⟨b, hb, rfl⟩)
  simp only [Function.comp, id]
  have hc := digitB_cell (n := (b.toNat : Int) - 48) h0 (by omega)
  exact UInt8.toNat_inj.1 (by omega)

theorem digits_sign {l : List Int} (h : lettersB l 8 = true) : ∀ b ∈ digitsB l, b ≠ 59 := by
  have hm := letters_mem h
  intro b hb he
  simp only [digitsB, List.mem_map] at hb
  obtain ⟨x, hx, rfl⟩ := hb
  obtain ⟨h0, h1⟩ := hm x hx
  have hc := digitB_cell h0 (by omega)
  rw [he] at hc
  have : ((59 : UInt8).toNat : Int) = 59 := by decide
  omega

/-- what a text gives again -/
theorem text_read {s l : List Int} (h : wordOk s l 8 = true) : readI (wordText s l) = (s, l, true) := by
  obtain ⟨k1, k2, k3, k4, k5⟩ := wordOk_parts h
  rw [read_same]
  unfold readS wordText
  rw [if_pos h]
  have hl : (digitsB s ++ 59 :: digitsB l).length ≤ 81 := by simp [digitsB]; omega
  rw [if_neg (by omega), pieces_cut (digits_sign k4), pieces_none (digits_sign k5)]
  simp only [nums_digits k4, nums_digits k5, wordBack, h, Bool.and_self, if_true]

theorem join_ahead {cur : List UInt8} {l : List (List UInt8)} {c : UInt8} (h : l ≠ []) : List.intercalate [c] (ahead cur l) = cur ++ List.intercalate [c] l := by
  match l, h with
  | [p], _ => simp [ahead, List.intercalate]
  | p :: q :: r, _ => simp [ahead, List.intercalate]

theorem pieces_two {c : UInt8} : ∀ {t p q : List UInt8}, pieces c t = [p, q] → t = p ++ c :: q
  | [], p, q, h => by simp [pieces] at h
  | b :: r, p, q, h => by
    rw [pieces] at h
    split at h
    · rename_i hb
      subst hb
      simp only [List.cons.injEq] at h
      obtain ⟨rfl, h⟩ := h
      have := pieces_sign h
      have hp := pieces_none this
      rw [h] at hp
      simp only [List.cons.injEq, and_true] at hp
      simp [hp]
    · rename_i hb
      cases hr : pieces c r with
      | nil => exact absurd hr (pieces_ne c r)
      | cons x l =>
        rw [hr] at h
        simp only [ahead, List.cons.injEq] at h
        obtain ⟨rfl, rfl⟩ := h
        have := pieces_two hr
        simp [this]

theorem read_text {t : List UInt8} (h : (readI t).2.2 = true) : wordText (readI t).1 (readI t).2.1 = t := by
  rw [read_same] at h ⊢
  unfold readS at h ⊢
  split at h
  · cases h
  · rename_i hl
    rw [if_neg hl]
    split at h
    · rename_i p q hp
      unfold wordBack at h ⊢
      split at h
      · rename_i hw
        rw [if_pos hw]
        simp only [Bool.true_and] at hw
        obtain ⟨_, _, _, k4, k5⟩ := wordOk_parts hw
        simp only [wordText, hw, if_true, digits_nums k4, digits_nums k5]
        exact (pieces_two hp).symm
      · cases h
    · cases h

/-! ### the law -/

def c_laws_big : ICode := (.seq (.reg [⟨(some 2), .mv, [(.c (.bool false))], none⟩]) (.seq (.reg [⟨(some 3), .mv, [(.t 0)], none⟩, ⟨(some 4), .len, [(.t 3)], none⟩, ⟨(some 5), (.bin .gtr), [(.t 4), (.c (.int .i64 1048576))], none⟩, ⟨(some 2), .mv, [(.t 5)], none⟩]) .ret))
theorem b_laws_big : Body Try.prog 27 6 c_laws_big [(.t 2)] := by
  have h1 : comp Try.prog 6 (Try.f27.body.getD .skip) = some c_laws_big := by kernel_rfl
  have h2 : Try.f27.body = some (Try.f27.body.getD .skip) := by kernel_rfl
  have h3 : Try.f27.results.toList.map (cRes Try.prog) = [(some (.t 2))] := by kernel_rfl
  exact ⟨_, _, Try.func27, h2, Try.ntmps27, h1, h3, by decide⟩

def c_laws_sameInts : ICode := (.seq (.reg [⟨(some 4), .mv, [(.c (.bool false))], none⟩]) (.seq (.seq (.reg [⟨(some 6), .mv, [(.t 0)], none⟩, ⟨(some 7), .len, [(.t 6)], none⟩, ⟨(some 8), .mv, [(.t 1)], none⟩, ⟨(some 9), .len, [(.t 8)], none⟩, ⟨(some 10), (.bin .neq), [(.t 7), (.t 9)], none⟩]) (.cond (.t 10) (.seq (.reg [⟨(some 4), .mv, [(.c (.bool false))], none⟩]) .ret) .skip)) (.seq (.seq (.reg [⟨(some 5), .mv, [(.c (.int .i64 0))], none⟩]) (.block 0 (.loop (.seq (.seq (.reg [⟨(some 11), .mv, [(.t 5)], none⟩, ⟨(some 12), .mv, [(.t 0)], none⟩, ⟨(some 13), .len, [(.t 12)], none⟩, ⟨(some 14), (.bin .lss), [(.t 11), (.t 13)], none⟩]) (.cond (.t 14) .skip (.exit 0))) (.seq (.block 1 (.seq (.drw [⟨(some 17), .mv, [(.t 0)], none⟩, ⟨(some 18), .mv, [(.t 5)], none⟩, ⟨(some 19), (.iadr 1), [(.t 17), (.t 18)], none⟩, ⟨(some 20), .ld1, [(.t 19)], none⟩, ⟨(some 21), .mv, [(.t 1)], none⟩, ⟨(some 22), .mv, [(.t 5)], none⟩, ⟨(some 23), (.iadr 1), [(.t 21), (.t 22)], none⟩, ⟨(some 24), .ld1, [(.t 23)], none⟩, ⟨(some 25), (.bin .neq), [(.t 20), (.t 24)], none⟩] [[], [], [0, 1], [0, 1, 2], [], [], [4, 5], [4, 5, 6], [0, 1, 2, 3, 4, 5, 6, 7]] true true) (.cond (.t 25) (.seq (.reg [⟨(some 4), .mv, [(.c (.bool false))], none⟩]) .ret) .skip))) (.reg [⟨(some 15), .mv, [(.t 5)], none⟩, ⟨(some 16), (.bin .add), [(.t 15), (.c (.int .i64 1))], none⟩, ⟨(some 5), .mv, [(.t 16)], none⟩])))))) (.seq (.reg [⟨(some 4), .mv, [(.c (.bool true))], none⟩]) .ret))))
theorem b_laws_sameInts : Body Try.prog 30 26 c_laws_sameInts [(.t 4)] := by
  have h1 : comp Try.prog 26 (Try.f30.body.getD .skip) = some c_laws_sameInts := by kernel_rfl
  have h2 : Try.f30.body = some (Try.f30.body.getD .skip) := by kernel_rfl
  have h3 : Try.f30.results.toList.map (cRes Try.prog) = [(some (.t 4))] := by kernel_rfl
  exact ⟨_, _, Try.func30, h2, Try.ntmps30, h1, h3, by decide⟩

def c_laws_FnWordText : ICode := (.seq (.reg [⟨(some 2), .mv, [(.c (.bool false))], none⟩]) (.seq (.seq (.reg [⟨(some 12), .mv, [(.t 0)], none⟩, ⟨(some 13), (.call 27), [(.t 12)], none⟩]) (.cond (.t 13) (.seq (.reg [⟨(some 2), .mv, [(.c (.bool true))], none⟩]) .ret) .skip)) (.seq (.reg [⟨(some 14), .mv, [(.t 0)], none⟩, ⟨(some 15), (.call 28), [(.t 14)], none⟩, ⟨(some 3), (.alc [.snil, .snil]), [], none⟩, ⟨none, (.st 2), [(.t 3), (.t 15)], none⟩]) (.seq (.reg [⟨(some 16), (.ldn 2), [(.t 3)], none⟩, ⟨(some 17), (.call 16), [(.t 16)], none⟩, ⟨(some 4), .mv, [(.t 17)], none⟩]) (.seq (.seq (.reg [⟨(some 18), (.ldn 2), [(.t 3)], none⟩, ⟨(some 19), (.call 29), [(.t 18), (.c (.int .i64 8))], none⟩]) (.cond (.t 19) (.seq (.reg [⟨(some 21), .mv, [(.t 4)], none⟩, ⟨(some 22), (.call 24), [(.t 21)], none⟩, ⟨(some 20), .mv, [(.t 22)], none⟩, ⟨(some 23), (.ext 0), [(.t 20)], none⟩, ⟨(some 24), (.ext 1), [(.t 20)], none⟩, ⟨(some 5), (.alc [.snil, .snil]), [], none⟩, ⟨none, (.st 2), [(.t 5), (.t 23)], none⟩, ⟨(some 6), .mv, [(.t 24)], none⟩]) (.seq (.reg [⟨(some 25), .mv, [(.t 6)], none⟩, ⟨(some 26), .not, [(.t 25)], none⟩, ⟨(some 27), .mv, [(.t 26)], none⟩, ⟨(some 28), (.fadr 0), [(.t 5)], (some (27, false))⟩, ⟨(some 29), .ld1, [(.t 28)], (some (27, false))⟩, ⟨(some 30), (.fadr 0), [(.t 3)], (some (27, false))⟩, ⟨(some 31), .ld1, [(.t 30)], (some (27, false))⟩, ⟨(some 32), (.call 30), [(.t 29), (.t 31)], (some (27, false))⟩, ⟨(some 33), .not, [(.t 32)], (some (27, false))⟩, ⟨(some 34), .pick, [(.t 27), (.c (.bool true)), (.t 33)], none⟩, ⟨(some 35), .mv, [(.t 34)], none⟩, ⟨(some 36), (.fadr 1), [(.t 5)], (some (35, false))⟩, ⟨(some 37), .ld1, [(.t 36)], (some (35, false))⟩, ⟨(some 38), (.fadr 1), [(.t 3)], (some (35, false))⟩, ⟨(some 39), .ld1, [(.t 38)], (some (35, false))⟩, ⟨(some 40), (.call 30), [(.t 37), (.t 39)], (some (35, false))⟩, ⟨(some 41), .not, [(.t 40)], (some (35, false))⟩, ⟨(some 42), .pick, [(.t 35), (.c (.bool true)), (.t 41)], none⟩]) (.cond (.t 42) (.seq (.reg [⟨(some 2), .mv, [(.c (.bool false))], none⟩]) .ret) .skip))) (.seq (.reg [⟨(some 43), .mv, [(.t 4)], none⟩, ⟨(some 44), (.bin .neq), [(.t 43), (.c (.str []))], none⟩]) (.cond (.t 44) (.seq (.reg [⟨(some 2), .mv, [(.c (.bool false))], none⟩]) .ret) .skip)))) (.seq (.reg [⟨(some 45), .mv, [(.t 0)], none⟩, ⟨(some 46), (.call 31), [(.t 45)], none⟩, ⟨(some 7), .mv, [(.t 46)], none⟩]) (.seq (.reg [⟨(some 48), .mv, [(.t 7)], none⟩, ⟨(some 49), (.call 24), [(.t 48)], none⟩, ⟨(some 47), .mv, [(.t 49)], none⟩, ⟨(some 50), (.ext 0), [(.t 47)], none⟩, ⟨(some 51), (.ext 1), [(.t 47)], none⟩, ⟨(some 8), (.alc [.snil, .snil]), [], none⟩, ⟨none, (.st 2), [(.t 8), (.t 50)], none⟩, ⟨(some 9), .mv, [(.t 51)], none⟩]) (.seq (.reg [⟨(some 53), .mv, [(.t 7)], none⟩, ⟨(some 54), (.call 23), [(.t 53)], none⟩, ⟨(some 52), .mv, [(.t 54)], none⟩, ⟨(some 55), (.ext 0), [(.t 52)], none⟩, ⟨(some 56), (.ext 1), [(.t 52)], none⟩, ⟨(some 10), (.alc [.snil, .snil]), [], none⟩, ⟨none, (.st 2), [(.t 10), (.t 55)], none⟩, ⟨(some 11), .mv, [(.t 56)], none⟩]) (.seq (.reg [⟨(some 57), .mv, [(.t 9)], none⟩, ⟨(some 58), .mv, [(.t 11)], none⟩, ⟨(some 59), (.beq false), [(.t 57), (.t 58)], none⟩, ⟨(some 60), .mv, [(.t 59)], none⟩, ⟨(some 61), .mv, [(.t 9)], (some (60, true))⟩, ⟨(some 62), .not, [(.t 61)], (some (60, true))⟩, ⟨(some 63), .mv, [(.t 62)], (some (60, true))⟩, ⟨(some 64), (.ldn 2), [(.t 8)], (some (63, false))⟩, ⟨(some 65), (.call 16), [(.t 64)], (some (63, false))⟩, ⟨(some 66), .mv, [(.t 7)], (some (63, false))⟩, ⟨(some 67), (.bin .eql), [(.t 65), (.t 66)], (some (63, false))⟩, ⟨(some 68), .pick, [(.t 63), (.c (.bool true)), (.t 67)], (some (60, true))⟩, ⟨(some 69), .pick, [(.t 60), (.t 68), (.c (.bool false))], none⟩, ⟨(some 2), .mv, [(.t 69)], none⟩]) .ret)))))))))
theorem b_laws_FnWordText : Body Try.prog 6 70 c_laws_FnWordText [(.t 2)] := by
  have h1 : comp Try.prog 70 (Try.f6.body.getD .skip) = some c_laws_FnWordText := by kernel_rfl
  have h2 : Try.f6.body = some (Try.f6.body.getD .skip) := by kernel_rfl
  have h3 : Try.f6.results.toList.map (cRes Try.prog) = [(some (.t 2))] := by kernel_rfl
  exact ⟨_, _, Try.func6, h2, Try.ntmps6, h1, h3, by decide⟩


def RBig (xs : List AV) (r : AV) (objs : List AObj) : Prop := ∃ code : List UInt8, xs = [.val (code.map byteRow)] ∧ r = .bool (decide (1048576 < code.length)) ∧ objs = []
theorem RBig_mk {code : List UInt8} : RBig [.val (code.map byteRow)] (.bool (decide (1048576 < code.length))) [] := ⟨code, rfl, rfl, rfl⟩

theorem s_laws_big : PureSound Try.prog 27 RBig := by
  have hR : Rely Try.prog (ctxOf []) := rely_nil mixed
  refine pure_of_aw b_laws_big ?_
  rintro xs r objs ⟨code, rfl, rfl, rfl⟩ -
  have hbl : (code.map byteRow).length = code.length := by simp
  refine ⟨by simp, vc2_sound hR _ _ _ _ _ ?_⟩
  conv => whnf
  repeat' (first
    | (refine And.intro (fun hb => ?_) (fun hb => ?_)
       all_goals (try simp only [decide_eq_true_eq, decide_eq_false_iff_not, Bool.not_eq_true', Bool.not_eq_false', Bool.not_not, ne_eq, length_ints, List.length_map, beq_iff_eq, bne_iff_ne, beq_eq_false_iff_ne, bne_eq_false_iff_eq, Int.not_le, Int.not_lt, ge_iff_le, gt_iff_lt, reduceCtorEq, not_false_eq_true, not_true_eq_false, Bool.false_eq_true, Bool.true_eq_false] at hb)
       all_goals (try (exfalso; omega))
       all_goals conv => whnf)
    | (refine And.intro (live_all rfl) ?_; conv => whnf)
    | (refine And.intro rfl ?_; conv => whnf)
    | (refine ⟨_, IntWalk.i64_in _ (by omega), ?_⟩; conv => whnf)
    | (refine And.intro (okcs_all rfl) ?_; conv => whnf)
    | (refine And.intro (okvs_all rfl) ?_; conv => whnf)
    | (refine And.intro (frees_all rfl) ?_; conv => whnf)
    | (refine And.intro (bsl_all rfl) ?_; conv => whnf)
    | (refine And.intro (lens_all rfl) ?_; conv => whnf)
    | (refine And.intro (Nat.le_of_ble_eq_true rfl) ?_; conv => whnf)
    | (rw [ints_at (by omega)]; conv => whnf)
    | (rw [ints_at0 (by omega)]; conv => whnf)
    | (rw [ints_at' (by omega) (by omega)]; conv => whnf)
    | (refine And.intro (show (_ + 1) * _ ≤ _ by omega) ?_; conv => whnf)
    | (refine And.intro (show _ + 1 ≤ _ by omega) ?_; conv => whnf)
    | (refine And.intro (by first | omega | (simp only [length_ints]; omega)) ?_; conv => whnf)
    | fail)
  · refine ⟨.inl rfl, ?_⟩
    conv => whnf
    refine ⟨[], ⟨rfl, trivial⟩, ?_, rfl, rfl⟩
    conv => whnf
    left
    conv => lhs; whnf
    exact congrArg AV.bool (decide_eq_true (by omega)).symm
  · refine ⟨.inl rfl, ?_⟩
    conv => whnf
    refine ⟨[], ⟨rfl, trivial⟩, ?_, rfl, rfl⟩
    conv => whnf
    left
    conv => lhs; whnf
    exact congrArg AV.bool (decide_eq_false (by omega)).symm

theorem s_laws_sameInts : PureSound Try.prog 30 REqIntS := by
  have hR : Rely Try.prog (ctxOf []) := rely_nil mixed
  refine pure_of_aw b_laws_sameInts ?_
  rintro xs r objs ⟨a, b, rfl, rfl, rfl⟩ ⟨w, own, vs, hrel⟩
  have hl : (ints a).length ≤ 9223372036854775807 := by
    obtain ⟨v, hv⟩ := rels_at hrel (i := 0) rfl
    exact rel_len hv
  rw [length_ints] at hl
  clear hrel
  refine ⟨by simp, vc2_sound hR _ _ _ _ _ ?_⟩
  conv => whnf
  repeat' (first
    | (refine And.intro (fun hb => ?_) (fun hb => ?_)
       all_goals (try simp only [decide_eq_true_eq, decide_eq_false_iff_not, Bool.not_eq_true', Bool.not_eq_false', Bool.not_not, ne_eq, length_ints, List.length_map, beq_iff_eq, bne_iff_ne, beq_eq_false_iff_ne, bne_eq_false_iff_eq, Int.not_le, Int.not_lt, ge_iff_le, gt_iff_lt, reduceCtorEq, not_false_eq_true, not_true_eq_false, Bool.false_eq_true, Bool.true_eq_false] at hb)
       all_goals (try (exfalso; omega))
       all_goals conv => whnf)
    | (refine And.intro (live_all rfl) ?_; conv => whnf)
    | (refine And.intro rfl ?_; conv => whnf)
    | (refine ⟨_, IntWalk.i64_in _ (by omega), ?_⟩; conv => whnf)
    | (refine And.intro (okcs_all rfl) ?_; conv => whnf)
    | (refine And.intro (okvs_all rfl) ?_; conv => whnf)
    | (refine And.intro (frees_all rfl) ?_; conv => whnf)
    | (refine And.intro (bsl_all rfl) ?_; conv => whnf)
    | (refine And.intro (lens_all rfl) ?_; conv => whnf)
    | (refine And.intro (Nat.le_of_ble_eq_true rfl) ?_; conv => whnf)
    | (rw [ints_at (by omega)]; conv => whnf)
    | (rw [ints_at0 (by omega)]; conv => whnf)
    | (rw [ints_at' (by omega) (by omega)]; conv => whnf)
    | (refine And.intro (show (_ + 1) * _ ≤ _ by omega) ?_; conv => whnf)
    | (refine And.intro (show _ + 1 ≤ _ by omega) ?_; conv => whnf)
    | (refine And.intro (by first | omega | (simp only [length_ints]; omega)) ?_; conv => whnf)
    | fail)
  · refine ⟨.inl rfl, ?_⟩
    conv => whnf
    refine ⟨[], ⟨rfl, trivial⟩, ?_, rfl, rfl⟩
    conv => whnf
    left
    conv => lhs; whnf
    refine congrArg AV.bool (Eq.symm (decide_eq_false ?_))
    intro h; subst h; exact hb rfl
  · refine Lp.intro (α := Nat) (fun i => i ≤ a.length ∧ ∀ j, j < i → a.getD j 0 = b.getD j 0) (fun i => a.length - i) (fun i => [(0, .val (ints a)), (1, .val (ints b)), (5, .int .i64 i)]) (fun _ => []) ?_ ?_
    · refine ⟨0, ⟨by omega, by omega⟩, [], rfl, rfl, trivial, ?_⟩
      repeat' (first
        | exact trivial
        | refine ⟨?_, ?_⟩
        | fail)
      all_goals first
        | with_reducible rfl
        | (conv => whnf
           try left
           conv => lhs; whnf
           first
             | rfl
             | exact congrArg (AV.int .i64) (by omega)
             | skip)
    · rintro i ⟨hi, hall⟩
      refine vc2_sound hR _ _ _ _ _ ?_
      conv => whnf
      repeat' (first
        | (refine And.intro (fun hb => ?_) (fun hb => ?_)
           all_goals (try simp only [decide_eq_true_eq, decide_eq_false_iff_not, Bool.not_eq_true', Bool.not_eq_false', Bool.not_not, ne_eq, length_ints, List.length_map, beq_iff_eq, bne_iff_ne, beq_eq_false_iff_ne, bne_eq_false_iff_eq, Int.not_le, Int.not_lt, ge_iff_le, gt_iff_lt, reduceCtorEq, not_false_eq_true, not_true_eq_false, Bool.false_eq_true, Bool.true_eq_false] at hb)
           all_goals (try (exfalso; omega))
           all_goals conv => whnf)
        | (refine And.intro (live_all rfl) ?_; conv => whnf)
        | (refine And.intro rfl ?_; conv => whnf)
        | (refine ⟨_, IntWalk.i64_in _ (by omega), ?_⟩; conv => whnf)
        | (refine And.intro (okcs_all rfl) ?_; conv => whnf)
        | (refine And.intro (okvs_all rfl) ?_; conv => whnf)
        | (refine And.intro (frees_all rfl) ?_; conv => whnf)
        | (refine And.intro (bsl_all rfl) ?_; conv => whnf)
        | (refine And.intro (lens_all rfl) ?_; conv => whnf)
        | (refine And.intro (Nat.le_of_ble_eq_true rfl) ?_; conv => whnf)
        | (rw [ints_at (by omega)]; conv => whnf)
        | (rw [ints_at0 (by omega)]; conv => whnf)
        | (rw [ints_at' (by omega) (by omega)]; conv => whnf)
        | (refine And.intro (show (_ + 1) * _ ≤ _ by omega) ?_; conv => whnf)
        | (refine And.intro (show _ + 1 ≤ _ by omega) ?_; conv => whnf)
        | (refine And.intro (by first | omega | (simp only [length_ints]; omega)) ?_; conv => whnf)
        | fail)
      · refine ⟨.inl rfl, ?_⟩
        conv => whnf
        refine ⟨[], ⟨rfl, trivial⟩, ?_, rfl, rfl⟩
        conv => whnf
        left
        conv => lhs; whnf
        refine congrArg AV.bool (Eq.symm (decide_eq_false ?_))
        intro h; subst h; exact hb rfl
      · refine ⟨i + 1, ⟨by omega, fun j hj => ?_⟩, by omega, [], rfl, rfl, trivial, ?_⟩
        · by_cases hji : j = i
          · subst hji; exact hb
          · exact hall j (by omega)
        · repeat' (first
            | exact trivial
            | refine ⟨?_, ?_⟩
            | fail)
          all_goals first
            | with_reducible rfl
            | (conv => whnf
               try left
               conv => lhs; whnf
               first
                 | rfl
                 | exact congrArg (AV.int .i64) (by omega)
                 | skip)
      · refine ⟨.inl rfl, ?_⟩
        conv => whnf
        refine ⟨[], ⟨rfl, trivial⟩, ?_, rfl, rfl⟩
        conv => whnf
        left
        conv => lhs; whnf
        refine congrArg AV.bool (Eq.symm (decide_eq_true ?_))
        exact eq_of_getD (by omega) (fun j hj => hall j (by omega))

def RTrueCode (xs : List AV) (r : AV) (objs : List AObj) : Prop := ∃ code : List UInt8, xs = [.val (code.map byteRow)] ∧ r = .bool true ∧ objs = []

theorem REqIntS_is {xs : List AV} {a : List Int} (h : xs = [.val (ints a), .val (ints a)]) : REqIntS xs (.bool true) [] := ⟨a, a, h, by simp, rfl⟩

theorem RWordOk_is {xs : List AV} {s l : List Int} {n : Int} {b : Bool} (hw : wordOk s l n = b) (h : xs = [word s l, .int .i64 n]) : RWordOk xs (.bool b) [] := by
  subst hw; exact ⟨s, l, n, h, rfl, rfl⟩
theorem RWordText_is {xs : List AV} {s l : List Int} {t : List UInt8} (ht : wordText s l = t) (h : xs = [word s l]) : RWordText xs (.str t) [] := by
  subst ht; exact ⟨s, l, h, rfl, rfl⟩

set_option maxHeartbeats 4000000 in
theorem s_laws_FnWordText : PureSound Try.prog 6 RTrueCode := by
  have hR : Rely Try.prog (ctxOf [(27, .pure RBig), (28, .gen 0 GDrawText), (16, .pure RWordText), (29, .pure RWordOk), (24, .pure RWordReadI), (30, .pure REqIntS), (31, .gen 0 GDrawRead), (23, .pure RWordReadS)]) :=
    rely_cons b_laws_big.has s_laws_big (rely_cons b_spec_DrawWordText.has s_spec_DrawWordText (rely_cons b_impl_WordText.has s_impl_WordText (rely_cons b_spec_WordOk.has s_spec_WordOk (rely_cons b_impl_WordRead.has s_impl_WordRead
      (rely_cons b_laws_sameInts.has s_laws_sameInts (rely_cons b_spec_DrawWordRead.has s_spec_DrawWordRead (rely_cons b_spec_WordRead.has s_spec_WordRead (rely_nil mixed))))))))
  refine pure_of_aw b_laws_FnWordText ?_
  rintro xs r objs ⟨code, rfl, rfl, rfl⟩ -
  refine ⟨by simp, vc2_sound hR _ _ _ _ _ ?_⟩
  conv => whnf
  repeat' (first
    | (refine And.intro (fun hb => ?_) (fun hb => ?_)
       all_goals (try simp only [decide_eq_true_eq, decide_eq_false_iff_not, Bool.not_eq_true', Bool.not_eq_false', Bool.not_not, ne_eq, length_ints, List.length_map, beq_iff_eq, bne_iff_ne, beq_eq_false_iff_ne, bne_eq_false_iff_eq, Int.not_le, Int.not_lt, ge_iff_le, gt_iff_lt, reduceCtorEq, not_false_eq_true, not_true_eq_false, Bool.false_eq_true, Bool.true_eq_false] at hb)
       all_goals (try (exfalso; omega))
       all_goals conv => whnf)
    | (refine And.intro (live_all rfl) ?_; conv => whnf)
    | (refine And.intro rfl ?_; conv => whnf)
    | (refine ⟨_, IntWalk.i64_in _ (by omega), ?_⟩; conv => whnf)
    | (refine And.intro (okcs_all rfl) ?_; conv => whnf)
    | (refine And.intro (okvs_all rfl) ?_; conv => whnf)
    | (refine And.intro (frees_all rfl) ?_; conv => whnf)
    | (refine And.intro (bsl_all rfl) ?_; conv => whnf)
    | (refine And.intro (lens_all rfl) ?_; conv => whnf)
    | (refine And.intro (Nat.le_of_ble_eq_true rfl) ?_; conv => whnf)
    | (rw [ints_at (by omega)]; conv => whnf)
    | (rw [ints_at0 (by omega)]; conv => whnf)
    | (rw [ints_at' (by omega) (by omega)]; conv => whnf)
    | (refine And.intro (show (_ + 1) * _ ≤ _ by omega) ?_; conv => whnf)
    | (refine And.intro (show _ + 1 ≤ _ by omega) ?_; conv => whnf)
    | (refine And.intro (by first | omega | (simp only [length_ints]; omega)) ?_; conv => whnf)
    | (refine ⟨_, _, RBig_mk, ?_⟩; conv => whnf)
    | fail)
  · refine ⟨.inl rfl, ?_⟩
    conv => whnf
    refine ⟨[], ⟨rfl, trivial⟩, ?_, rfl, rfl⟩
    conv => whnf
    left
    conv => lhs; whnf
  conv => whnf
  repeat' (first
    | (refine And.intro (fun hb => ?_) (fun hb => ?_)
       all_goals (try simp only [decide_eq_true_eq, decide_eq_false_iff_not, Bool.not_eq_true', Bool.not_eq_false', Bool.not_not, ne_eq, length_ints, List.length_map, beq_iff_eq, bne_iff_ne, beq_eq_false_iff_ne, bne_eq_false_iff_eq, Int.not_le, Int.not_lt, ge_iff_le, gt_iff_lt, reduceCtorEq, not_false_eq_true, not_true_eq_false, Bool.false_eq_true, Bool.true_eq_false] at hb)
       all_goals (try (exfalso; omega))
       all_goals conv => whnf)
    | (refine And.intro (live_all rfl) ?_; conv => whnf)
    | (refine And.intro rfl ?_; conv => whnf)
    | (refine ⟨_, IntWalk.i64_in _ (by omega), ?_⟩; conv => whnf)
    | (refine And.intro (okcs_all rfl) ?_; conv => whnf)
    | (refine And.intro (okvs_all rfl) ?_; conv => whnf)
    | (refine And.intro (frees_all rfl) ?_; conv => whnf)
    | (refine And.intro (bsl_all rfl) ?_; conv => whnf)
    | (refine And.intro (lens_all rfl) ?_; conv => whnf)
    | (refine And.intro (Nat.le_of_ble_eq_true rfl) ?_; conv => whnf)
    | (rw [ints_at (by omega)]; conv => whnf)
    | (rw [ints_at0 (by omega)]; conv => whnf)
    | (rw [ints_at' (by omega) (by omega)]; conv => whnf)
    | (refine And.intro (show (_ + 1) * _ ≤ _ by omega) ?_; conv => whnf)
    | (refine And.intro (show _ + 1 ≤ _ by omega) ?_; conv => whnf)
    | (refine And.intro (by first | omega | (simp only [length_ints]; omega)) ?_; conv => whnf)
    | (refine ⟨GDrawText_mk (by omega) (fun s l hs hl => ?_)⟩; conv => whnf)
    | fail)
  cases hw : wordOk s l 8 with
  | true =>
    have hr : RWordReadI [.str (wordText s l)] (readR (s, l, true)) (readO (s, l, true)) := by
      have := wordText_le s l
      rw [← text_read hw]
      exact RWordReadI_mk (by omega)
    refine ⟨_, _, RWordText_eq (s := s) (l := l) (by repeat' (first | exact rfl | refine args_cons ?_ ?_ | refine snap_agg ?_ | refine cells_cons ?_ ?_ | exact snap1_all rfl (by first | (simp only [length_ints]; done) | simp [ints, marks]) | exact snap_all rfl (by first | (simp only [length_ints]; done) | simp [ints, marks]) | exact snap1_all2 rfl (by first | (simp only [length_ints]; done) | simp [ints, marks]) | fail)), ?_⟩
    conv => whnf
    repeat' (first
      | (refine And.intro (fun hb => ?_) (fun hb => ?_)
         all_goals (try simp only [decide_eq_true_eq, decide_eq_false_iff_not, Bool.not_eq_true', Bool.not_eq_false', Bool.not_not, ne_eq, length_ints, List.length_map, beq_iff_eq, bne_iff_ne, beq_eq_false_iff_ne, bne_eq_false_iff_eq, Int.not_le, Int.not_lt, ge_iff_le, gt_iff_lt, reduceCtorEq, not_false_eq_true, not_true_eq_false, Bool.false_eq_true, Bool.true_eq_false] at hb)
         all_goals (try (exfalso; omega))
         all_goals conv => whnf)
      | (refine And.intro (live_all rfl) ?_; conv => whnf)
      | (refine And.intro rfl ?_; conv => whnf)
      | (refine ⟨_, IntWalk.i64_in _ (by omega), ?_⟩; conv => whnf)
      | (refine And.intro (okcs_all rfl) ?_; conv => whnf)
      | (refine And.intro (okvs_all rfl) ?_; conv => whnf)
      | (refine And.intro (frees_all rfl) ?_; conv => whnf)
      | (refine And.intro (bsl_all rfl) ?_; conv => whnf)
      | (refine And.intro (lens_all rfl) ?_; conv => whnf)
      | (refine And.intro (Nat.le_of_ble_eq_true rfl) ?_; conv => whnf)
      | (rw [ints_at (by omega)]; conv => whnf)
      | (rw [ints_at0 (by omega)]; conv => whnf)
      | (rw [ints_at' (by omega) (by omega)]; conv => whnf)
      | (refine And.intro (show (_ + 1) * _ ≤ _ by omega) ?_; conv => whnf)
      | (refine And.intro (show _ + 1 ≤ _ by omega) ?_; conv => whnf)
      | (refine And.intro (by first | omega | (simp only [length_ints]; omega)) ?_; conv => whnf)
      | fail)
    refine ⟨_, _, RWordOk_is (s := s) (l := l) (n := 8) hw (by repeat' (first | exact rfl | refine args_cons ?_ ?_ | refine snap_agg ?_ | refine cells_cons ?_ ?_ | exact snap1_all rfl (by first | (simp only [length_ints]; done) | simp [ints, marks]) | exact snap_all rfl (by first | (simp only [length_ints]; done) | simp [ints, marks]) | exact snap1_all2 rfl (by first | (simp only [length_ints]; done) | simp [ints, marks]) | fail)), ?_⟩
    conv => whnf
    repeat' (first
      | (refine And.intro (fun hb => ?_) (fun hb => ?_)
         all_goals (try simp only [decide_eq_true_eq, decide_eq_false_iff_not, Bool.not_eq_true', Bool.not_eq_false', Bool.not_not, ne_eq, length_ints, List.length_map, beq_iff_eq, bne_iff_ne, beq_eq_false_iff_ne, bne_eq_false_iff_eq, Int.not_le, Int.not_lt, ge_iff_le, gt_iff_lt, reduceCtorEq, not_false_eq_true, not_true_eq_false, Bool.false_eq_true, Bool.true_eq_false] at hb)
         all_goals (try (exfalso; omega))
         all_goals conv => whnf)
      | (refine And.intro (live_all rfl) ?_; conv => whnf)
      | (refine And.intro rfl ?_; conv => whnf)
      | (refine ⟨_, IntWalk.i64_in _ (by omega), ?_⟩; conv => whnf)
      | (refine And.intro (okcs_all rfl) ?_; conv => whnf)
      | (refine And.intro (okvs_all rfl) ?_; conv => whnf)
      | (refine And.intro (frees_all rfl) ?_; conv => whnf)
      | (refine And.intro (bsl_all rfl) ?_; conv => whnf)
      | (refine And.intro (lens_all rfl) ?_; conv => whnf)
      | (refine And.intro (Nat.le_of_ble_eq_true rfl) ?_; conv => whnf)
      | (rw [ints_at (by omega)]; conv => whnf)
      | (rw [ints_at0 (by omega)]; conv => whnf)
      | (rw [ints_at' (by omega) (by omega)]; conv => whnf)
      | (refine And.intro (show (_ + 1) * _ ≤ _ by omega) ?_; conv => whnf)
      | (refine And.intro (show _ + 1 ≤ _ by omega) ?_; conv => whnf)
      | (refine And.intro (by first | omega | (simp only [length_ints]; omega)) ?_; conv => whnf)
      | (refine ⟨_, _, hr, ?_⟩; conv => whnf)
      | fail)
    refine ⟨_, _, REqIntS_is (a := s) (by repeat' (first | exact rfl | refine args_cons ?_ ?_ | refine snap_agg ?_ | refine cells_cons ?_ ?_ | exact snap1_all rfl (by first | (simp only [length_ints]; done) | simp [ints, marks]) | exact snap_all rfl (by first | (simp only [length_ints]; done) | simp [ints, marks]) | exact snap1_all2 rfl (by first | (simp only [length_ints]; done) | simp [ints, marks]) | fail)), ?_⟩
    conv => whnf
    repeat' (first
      | (refine And.intro (fun hb => ?_) (fun hb => ?_)
         all_goals (try simp only [decide_eq_true_eq, decide_eq_false_iff_not, Bool.not_eq_true', Bool.not_eq_false', Bool.not_not, ne_eq, length_ints, List.length_map, beq_iff_eq, bne_iff_ne, beq_eq_false_iff_ne, bne_eq_false_iff_eq, Int.not_le, Int.not_lt, ge_iff_le, gt_iff_lt, reduceCtorEq, not_false_eq_true, not_true_eq_false, Bool.false_eq_true, Bool.true_eq_false] at hb)
         all_goals (try (exfalso; omega))
         all_goals conv => whnf)
      | (refine And.intro (live_all rfl) ?_; conv => whnf)
      | (refine And.intro rfl ?_; conv => whnf)
      | (refine ⟨_, IntWalk.i64_in _ (by omega), ?_⟩; conv => whnf)
      | (refine And.intro (okcs_all rfl) ?_; conv => whnf)
      | (refine And.intro (okvs_all rfl) ?_; conv => whnf)
      | (refine And.intro (frees_all rfl) ?_; conv => whnf)
      | (refine And.intro (bsl_all rfl) ?_; conv => whnf)
      | (refine And.intro (lens_all rfl) ?_; conv => whnf)
      | (refine And.intro (Nat.le_of_ble_eq_true rfl) ?_; conv => whnf)
      | (rw [ints_at (by omega)]; conv => whnf)
      | (rw [ints_at0 (by omega)]; conv => whnf)
      | (rw [ints_at' (by omega) (by omega)]; conv => whnf)
      | (refine And.intro (show (_ + 1) * _ ≤ _ by omega) ?_; conv => whnf)
      | (refine And.intro (show _ + 1 ≤ _ by omega) ?_; conv => whnf)
      | (refine And.intro (by first | omega | (simp only [length_ints]; omega)) ?_; conv => whnf)
      | fail)
    refine ⟨_, _, REqIntS_is (a := l) (by repeat' (first | exact rfl | refine args_cons ?_ ?_ | refine snap_agg ?_ | refine cells_cons ?_ ?_ | exact snap1_all rfl (by first | (simp only [length_ints]; done) | simp [ints, marks]) | exact snap_all rfl (by first | (simp only [length_ints]; done) | simp [ints, marks]) | exact snap1_all2 rfl (by first | (simp only [length_ints]; done) | simp [ints, marks]) | fail)), ?_⟩
    conv => whnf
    repeat' (first
      | (refine And.intro (fun hb => ?_) (fun hb => ?_)
         all_goals (try simp only [decide_eq_true_eq, decide_eq_false_iff_not, Bool.not_eq_true', Bool.not_eq_false', Bool.not_not, ne_eq, length_ints, List.length_map, beq_iff_eq, bne_iff_ne, beq_eq_false_iff_ne, bne_eq_false_iff_eq, Int.not_le, Int.not_lt, ge_iff_le, gt_iff_lt, reduceCtorEq, not_false_eq_true, not_true_eq_false, Bool.false_eq_true, Bool.true_eq_false] at hb)
         all_goals (try (exfalso; omega))
         all_goals conv => whnf)
      | (refine And.intro (live_all rfl) ?_; conv => whnf)
      | (refine And.intro rfl ?_; conv => whnf)
      | (refine ⟨_, IntWalk.i64_in _ (by omega), ?_⟩; conv => whnf)
      | (refine And.intro (okcs_all rfl) ?_; conv => whnf)
      | (refine And.intro (okvs_all rfl) ?_; conv => whnf)
      | (refine And.intro (frees_all rfl) ?_; conv => whnf)
      | (refine And.intro (bsl_all rfl) ?_; conv => whnf)
      | (refine And.intro (lens_all rfl) ?_; conv => whnf)
      | (refine And.intro (Nat.le_of_ble_eq_true rfl) ?_; conv => whnf)
      | (rw [ints_at (by omega)]; conv => whnf)
      | (rw [ints_at0 (by omega)]; conv => whnf)
      | (rw [ints_at' (by omega) (by omega)]; conv => whnf)
      | (refine And.intro (show (_ + 1) * _ ≤ _ by omega) ?_; conv => whnf)
      | (refine And.intro (show _ + 1 ≤ _ by omega) ?_; conv => whnf)
      | (refine And.intro (by first | omega | (simp only [length_ints]; omega)) ?_; conv => whnf)
      | (refine ⟨GDrawRead_mk (by omega) (fun t ht => ?_)⟩; conv => whnf)
      | fail)
    obtain ⟨a, b, ok, hab⟩ : ∃ a b ok, readI t = (a, b, ok) := ⟨_, _, _, rfl⟩
    have r1 : RWordReadI [.str t] (readR (a, b, ok)) (readO (a, b, ok)) := by rw [← hab]; exact RWordReadI_mk (by omega)
    have r2 : RWordReadS [.str t] (readR (a, b, ok)) (readO (a, b, ok)) := by rw [← hab, read_same]; exact RWordReadS_mk (by omega)
    cases ok with
    | false =>
      conv => whnf
      repeat' (first
        | (refine And.intro (fun hb => ?_) (fun hb => ?_)
           all_goals (try simp only [decide_eq_true_eq, decide_eq_false_iff_not, Bool.not_eq_true', Bool.not_eq_false', Bool.not_not, ne_eq, length_ints, List.length_map, beq_iff_eq, bne_iff_ne, beq_eq_false_iff_ne, bne_eq_false_iff_eq, Int.not_le, Int.not_lt, ge_iff_le, gt_iff_lt, reduceCtorEq, not_false_eq_true, not_true_eq_false, Bool.false_eq_true, Bool.true_eq_false] at hb)
           all_goals (try (exfalso; omega))
           all_goals conv => whnf)
        | (refine And.intro (live_all rfl) ?_; conv => whnf)
        | (refine And.intro rfl ?_; conv => whnf)
        | (refine ⟨_, IntWalk.i64_in _ (by omega), ?_⟩; conv => whnf)
        | (refine And.intro (okcs_all rfl) ?_; conv => whnf)
        | (refine And.intro (okvs_all rfl) ?_; conv => whnf)
        | (refine And.intro (frees_all rfl) ?_; conv => whnf)
        | (refine And.intro (bsl_all rfl) ?_; conv => whnf)
        | (refine And.intro (lens_all rfl) ?_; conv => whnf)
        | (refine And.intro (Nat.le_of_ble_eq_true rfl) ?_; conv => whnf)
        | (rw [ints_at (by omega)]; conv => whnf)
        | (rw [ints_at0 (by omega)]; conv => whnf)
        | (rw [ints_at' (by omega) (by omega)]; conv => whnf)
        | (refine And.intro (show (_ + 1) * _ ≤ _ by omega) ?_; conv => whnf)
        | (refine And.intro (show _ + 1 ≤ _ by omega) ?_; conv => whnf)
        | (refine And.intro (by first | omega | (simp only [length_ints]; omega)) ?_; conv => whnf)
        | (refine ⟨_, _, r1, ?_⟩; conv => whnf)
        | (refine ⟨_, _, r2, ?_⟩; conv => whnf)
        | fail)
      · refine ⟨.inl rfl, ?_⟩
        conv => whnf
        refine ⟨[], ⟨rfl, trivial⟩, ?_, rfl, rfl⟩
        conv => whnf
        left
        conv => lhs; whnf
      · rename_i hc
        exact absurd hc (by decide)
    | true =>
      have hback := read_text (t := t) (by rw [hab])
      rw [hab] at hback
      conv => whnf
      repeat' (first
        | (refine And.intro (fun hb => ?_) (fun hb => ?_)
           all_goals (try simp only [decide_eq_true_eq, decide_eq_false_iff_not, Bool.not_eq_true', Bool.not_eq_false', Bool.not_not, ne_eq, length_ints, List.length_map, beq_iff_eq, bne_iff_ne, beq_eq_false_iff_ne, bne_eq_false_iff_eq, Int.not_le, Int.not_lt, ge_iff_le, gt_iff_lt, reduceCtorEq, not_false_eq_true, not_true_eq_false, Bool.false_eq_true, Bool.true_eq_false] at hb)
           all_goals (try (exfalso; omega))
           all_goals conv => whnf)
        | (refine And.intro (live_all rfl) ?_; conv => whnf)
        | (refine And.intro rfl ?_; conv => whnf)
        | (refine ⟨_, IntWalk.i64_in _ (by omega), ?_⟩; conv => whnf)
        | (refine And.intro (okcs_all rfl) ?_; conv => whnf)
        | (refine And.intro (okvs_all rfl) ?_; conv => whnf)
        | (refine And.intro (frees_all rfl) ?_; conv => whnf)
        | (refine And.intro (bsl_all rfl) ?_; conv => whnf)
        | (refine And.intro (lens_all rfl) ?_; conv => whnf)
        | (refine And.intro (Nat.le_of_ble_eq_true rfl) ?_; conv => whnf)
        | (rw [ints_at (by omega)]; conv => whnf)
        | (rw [ints_at0 (by omega)]; conv => whnf)
        | (rw [ints_at' (by omega) (by omega)]; conv => whnf)
        | (refine And.intro (show (_ + 1) * _ ≤ _ by omega) ?_; conv => whnf)
        | (refine And.intro (show _ + 1 ≤ _ by omega) ?_; conv => whnf)
        | (refine And.intro (by first | omega | (simp only [length_ints]; omega)) ?_; conv => whnf)
        | (refine ⟨_, _, r1, ?_⟩; conv => whnf)
        | (refine ⟨_, _, r2, ?_⟩; conv => whnf)
        | fail)
      · refine ⟨_, _, RWordText_is (s := a) (l := b) hback (by repeat' (first | exact rfl | refine args_cons ?_ ?_ | refine snap_agg ?_ | refine cells_cons ?_ ?_ | exact snap1_all rfl (by first | (simp only [length_ints]; done) | simp [ints, marks]) | exact snap_all rfl (by first | (simp only [length_ints]; done) | simp [ints, marks]) | exact snap1_all2 rfl (by first | (simp only [length_ints]; done) | simp [ints, marks]) | fail)), ?_⟩
        conv => whnf
        repeat' (first
          | (refine And.intro (fun hb => ?_) (fun hb => ?_)
             all_goals (try simp only [decide_eq_true_eq, decide_eq_false_iff_not, Bool.not_eq_true', Bool.not_eq_false', Bool.not_not, ne_eq, length_ints, List.length_map, beq_iff_eq, bne_iff_ne, beq_eq_false_iff_ne, bne_eq_false_iff_eq, Int.not_le, Int.not_lt, ge_iff_le, gt_iff_lt, reduceCtorEq, not_false_eq_true, not_true_eq_false, Bool.false_eq_true, Bool.true_eq_false] at hb)
             all_goals (try (exfalso; omega))
             all_goals conv => whnf)
          | (refine And.intro (live_all rfl) ?_; conv => whnf)
          | (refine And.intro rfl ?_; conv => whnf)
          | (refine ⟨_, IntWalk.i64_in _ (by omega), ?_⟩; conv => whnf)
          | (refine And.intro (okcs_all rfl) ?_; conv => whnf)
          | (refine And.intro (okvs_all rfl) ?_; conv => whnf)
          | (refine And.intro (frees_all rfl) ?_; conv => whnf)
          | (refine And.intro (bsl_all rfl) ?_; conv => whnf)
          | (refine And.intro (lens_all rfl) ?_; conv => whnf)
          | (refine And.intro (Nat.le_of_ble_eq_true rfl) ?_; conv => whnf)
          | (rw [ints_at (by omega)]; conv => whnf)
          | (rw [ints_at0 (by omega)]; conv => whnf)
          | (rw [ints_at' (by omega) (by omega)]; conv => whnf)
          | (refine And.intro (show (_ + 1) * _ ≤ _ by omega) ?_; conv => whnf)
          | (refine And.intro (show _ + 1 ≤ _ by omega) ?_; conv => whnf)
          | (refine And.intro (by first | omega | (simp only [length_ints]; omega)) ?_; conv => whnf)
          | fail)
        all_goals first
          | exact absurd rfl hb
          | skip
        refine ⟨.inl rfl, ?_⟩
        conv => whnf
        refine ⟨[], ⟨rfl, trivial⟩, ?_, rfl, rfl⟩
        conv => whnf
        left
        conv => lhs; whnf
      · rename_i hc
        exact absurd hc (by decide)
  | false =>
    have he : wordText s l = [] := by simp [wordText, hw]
    have ht : RWordText [word s l] (.str []) [] := by rw [← he]; exact RWordText_mk
    refine ⟨_, _, RWordText_is (s := s) (l := l) he (by repeat' (first | exact rfl | refine args_cons ?_ ?_ | refine snap_agg ?_ | refine cells_cons ?_ ?_ | exact snap1_all rfl (by first | (simp only [length_ints]; done) | simp [ints, marks]) | exact snap_all rfl (by first | (simp only [length_ints]; done) | simp [ints, marks]) | exact snap1_all2 rfl (by first | (simp only [length_ints]; done) | simp [ints, marks]) | fail)), ?_⟩
    conv => whnf
    repeat' (first
      | (refine And.intro (fun hb => ?_) (fun hb => ?_)
         all_goals (try simp only [decide_eq_true_eq, decide_eq_false_iff_not, Bool.not_eq_true', Bool.not_eq_false', Bool.not_not, ne_eq, length_ints, List.length_map, beq_iff_eq, bne_iff_ne, beq_eq_false_iff_ne, bne_eq_false_iff_eq, Int.not_le, Int.not_lt, ge_iff_le, gt_iff_lt, reduceCtorEq, not_false_eq_true, not_true_eq_false, Bool.false_eq_true, Bool.true_eq_false] at hb)
         all_goals (try (exfalso; omega))
         all_goals conv => whnf)
      | (refine And.intro (live_all rfl) ?_; conv => whnf)
      | (refine And.intro rfl ?_; conv => whnf)
      | (refine ⟨_, IntWalk.i64_in _ (by omega), ?_⟩; conv => whnf)
      | (refine And.intro (okcs_all rfl) ?_; conv => whnf)
      | (refine And.intro (okvs_all rfl) ?_; conv => whnf)
      | (refine And.intro (frees_all rfl) ?_; conv => whnf)
      | (refine And.intro (bsl_all rfl) ?_; conv => whnf)
      | (refine And.intro (lens_all rfl) ?_; conv => whnf)
      | (refine And.intro (Nat.le_of_ble_eq_true rfl) ?_; conv => whnf)
      | (rw [ints_at (by omega)]; conv => whnf)
      | (rw [ints_at0 (by omega)]; conv => whnf)
      | (rw [ints_at' (by omega) (by omega)]; conv => whnf)
      | (refine And.intro (show (_ + 1) * _ ≤ _ by omega) ?_; conv => whnf)
      | (refine And.intro (show _ + 1 ≤ _ by omega) ?_; conv => whnf)
      | (refine And.intro (by first | omega | (simp only [length_ints]; omega)) ?_; conv => whnf)
      | fail)
    refine ⟨_, _, RWordOk_is (s := s) (l := l) (n := 8) hw (by repeat' (first | exact rfl | refine args_cons ?_ ?_ | refine snap_agg ?_ | refine cells_cons ?_ ?_ | exact snap1_all rfl (by first | (simp only [length_ints]; done) | simp [ints, marks]) | exact snap_all rfl (by first | (simp only [length_ints]; done) | simp [ints, marks]) | exact snap1_all2 rfl (by first | (simp only [length_ints]; done) | simp [ints, marks]) | fail)), ?_⟩
    conv => whnf
    repeat' (first
      | (refine And.intro (fun hb => ?_) (fun hb => ?_)
         all_goals (try simp only [decide_eq_true_eq, decide_eq_false_iff_not, Bool.not_eq_true', Bool.not_eq_false', Bool.not_not, ne_eq, length_ints, List.length_map, beq_iff_eq, bne_iff_ne, beq_eq_false_iff_ne, bne_eq_false_iff_eq, Int.not_le, Int.not_lt, ge_iff_le, gt_iff_lt, reduceCtorEq, not_false_eq_true, not_true_eq_false, Bool.false_eq_true, Bool.true_eq_false] at hb)
         all_goals (try (exfalso; omega))
         all_goals conv => whnf)
      | (refine And.intro (live_all rfl) ?_; conv => whnf)
      | (refine And.intro rfl ?_; conv => whnf)
      | (refine ⟨_, IntWalk.i64_in _ (by omega), ?_⟩; conv => whnf)
      | (refine And.intro (okcs_all rfl) ?_; conv => whnf)
      | (refine And.intro (okvs_all rfl) ?_; conv => whnf)
      | (refine And.intro (frees_all rfl) ?_; conv => whnf)
      | (refine And.intro (bsl_all rfl) ?_; conv => whnf)
      | (refine And.intro (lens_all rfl) ?_; conv => whnf)
      | (refine And.intro (Nat.le_of_ble_eq_true rfl) ?_; conv => whnf)
      | (rw [ints_at (by omega)]; conv => whnf)
      | (rw [ints_at0 (by omega)]; conv => whnf)
      | (rw [ints_at' (by omega) (by omega)]; conv => whnf)
      | (refine And.intro (show (_ + 1) * _ ≤ _ by omega) ?_; conv => whnf)
      | (refine And.intro (show _ + 1 ≤ _ by omega) ?_; conv => whnf)
      | (refine And.intro (by first | omega | (simp only [length_ints]; omega)) ?_; conv => whnf)
      | (refine ⟨GDrawRead_mk (by omega) (fun t ht => ?_)⟩; conv => whnf)
      | fail)
    obtain ⟨a, b, ok, hab⟩ : ∃ a b ok, readI t = (a, b, ok) := ⟨_, _, _, rfl⟩
    have r1 : RWordReadI [.str t] (readR (a, b, ok)) (readO (a, b, ok)) := by rw [← hab]; exact RWordReadI_mk (by omega)
    have r2 : RWordReadS [.str t] (readR (a, b, ok)) (readO (a, b, ok)) := by rw [← hab, read_same]; exact RWordReadS_mk (by omega)
    cases ok with
    | false =>
      conv => whnf
      repeat' (first
        | (refine And.intro (fun hb => ?_) (fun hb => ?_)
           all_goals (try simp only [decide_eq_true_eq, decide_eq_false_iff_not, Bool.not_eq_true', Bool.not_eq_false', Bool.not_not, ne_eq, length_ints, List.length_map, beq_iff_eq, bne_iff_ne, beq_eq_false_iff_ne, bne_eq_false_iff_eq, Int.not_le, Int.not_lt, ge_iff_le, gt_iff_lt, reduceCtorEq, not_false_eq_true, not_true_eq_false, Bool.false_eq_true, Bool.true_eq_false] at hb)
           all_goals (try (exfalso; omega))
           all_goals conv => whnf)
        | (refine And.intro (live_all rfl) ?_; conv => whnf)
        | (refine And.intro rfl ?_; conv => whnf)
        | (refine ⟨_, IntWalk.i64_in _ (by omega), ?_⟩; conv => whnf)
        | (refine And.intro (okcs_all rfl) ?_; conv => whnf)
        | (refine And.intro (okvs_all rfl) ?_; conv => whnf)
        | (refine And.intro (frees_all rfl) ?_; conv => whnf)
        | (refine And.intro (bsl_all rfl) ?_; conv => whnf)
        | (refine And.intro (lens_all rfl) ?_; conv => whnf)
        | (refine And.intro (Nat.le_of_ble_eq_true rfl) ?_; conv => whnf)
        | (rw [ints_at (by omega)]; conv => whnf)
        | (rw [ints_at0 (by omega)]; conv => whnf)
        | (rw [ints_at' (by omega) (by omega)]; conv => whnf)
        | (refine And.intro (show (_ + 1) * _ ≤ _ by omega) ?_; conv => whnf)
        | (refine And.intro (show _ + 1 ≤ _ by omega) ?_; conv => whnf)
        | (refine And.intro (by first | omega | (simp only [length_ints]; omega)) ?_; conv => whnf)
        | (refine ⟨_, _, r1, ?_⟩; conv => whnf)
        | (refine ⟨_, _, r2, ?_⟩; conv => whnf)
        | fail)
      · refine ⟨.inl rfl, ?_⟩
        conv => whnf
        refine ⟨[], ⟨rfl, trivial⟩, ?_, rfl, rfl⟩
        conv => whnf
        left
        conv => lhs; whnf
      · rename_i hc
        exact absurd hc (by decide)
    | true =>
      have hback := read_text (t := t) (by rw [hab])
      rw [hab] at hback
      conv => whnf
      repeat' (first
        | (refine And.intro (fun hb => ?_) (fun hb => ?_)
           all_goals (try simp only [decide_eq_true_eq, decide_eq_false_iff_not, Bool.not_eq_true', Bool.not_eq_false', Bool.not_not, ne_eq, length_ints, List.length_map, beq_iff_eq, bne_iff_ne, beq_eq_false_iff_ne, bne_eq_false_iff_eq, Int.not_le, Int.not_lt, ge_iff_le, gt_iff_lt, reduceCtorEq, not_false_eq_true, not_true_eq_false, Bool.false_eq_true, Bool.true_eq_false] at hb)
           all_goals (try (exfalso; omega))
           all_goals conv => whnf)
        | (refine And.intro (live_all rfl) ?_; conv => whnf)
        | (refine And.intro rfl ?_; conv => whnf)
        | (refine ⟨_, IntWalk.i64_in _ (by omega), ?_⟩; conv => whnf)
        | (refine And.intro (okcs_all rfl) ?_; conv => whnf)
        | (refine And.intro (okvs_all rfl) ?_; conv => whnf)
        | (refine And.intro (frees_all rfl) ?_; conv => whnf)
        | (refine And.intro (bsl_all rfl) ?_; conv => whnf)
        | (refine And.intro (lens_all rfl) ?_; conv => whnf)
        | (refine And.intro (Nat.le_of_ble_eq_true rfl) ?_; conv => whnf)
        | (rw [ints_at (by omega)]; conv => whnf)
        | (rw [ints_at0 (by omega)]; conv => whnf)
        | (rw [ints_at' (by omega) (by omega)]; conv => whnf)
        | (refine And.intro (show (_ + 1) * _ ≤ _ by omega) ?_; conv => whnf)
        | (refine And.intro (show _ + 1 ≤ _ by omega) ?_; conv => whnf)
        | (refine And.intro (by first | omega | (simp only [length_ints]; omega)) ?_; conv => whnf)
        | (refine ⟨_, _, r1, ?_⟩; conv => whnf)
        | (refine ⟨_, _, r2, ?_⟩; conv => whnf)
        | fail)
      · refine ⟨_, _, RWordText_is (s := a) (l := b) hback (by repeat' (first | exact rfl | refine args_cons ?_ ?_ | refine snap_agg ?_ | refine cells_cons ?_ ?_ | exact snap1_all rfl (by first | (simp only [length_ints]; done) | simp [ints, marks]) | exact snap_all rfl (by first | (simp only [length_ints]; done) | simp [ints, marks]) | exact snap1_all2 rfl (by first | (simp only [length_ints]; done) | simp [ints, marks]) | fail)), ?_⟩
        conv => whnf
        repeat' (first
          | (refine And.intro (fun hb => ?_) (fun hb => ?_)
             all_goals (try simp only [decide_eq_true_eq, decide_eq_false_iff_not, Bool.not_eq_true', Bool.not_eq_false', Bool.not_not, ne_eq, length_ints, List.length_map, beq_iff_eq, bne_iff_ne, beq_eq_false_iff_ne, bne_eq_false_iff_eq, Int.not_le, Int.not_lt, ge_iff_le, gt_iff_lt, reduceCtorEq, not_false_eq_true, not_true_eq_false, Bool.false_eq_true, Bool.true_eq_false] at hb)
             all_goals (try (exfalso; omega))
             all_goals conv => whnf)
          | (refine And.intro (live_all rfl) ?_; conv => whnf)
          | (refine And.intro rfl ?_; conv => whnf)
          | (refine ⟨_, IntWalk.i64_in _ (by omega), ?_⟩; conv => whnf)
          | (refine And.intro (okcs_all rfl) ?_; conv => whnf)
          | (refine And.intro (okvs_all rfl) ?_; conv => whnf)
          | (refine And.intro (frees_all rfl) ?_; conv => whnf)
          | (refine And.intro (bsl_all rfl) ?_; conv => whnf)
          | (refine And.intro (lens_all rfl) ?_; conv => whnf)
          | (refine And.intro (Nat.le_of_ble_eq_true rfl) ?_; conv => whnf)
          | (rw [ints_at (by omega)]; conv => whnf)
          | (rw [ints_at0 (by omega)]; conv => whnf)
          | (rw [ints_at' (by omega) (by omega)]; conv => whnf)
          | (refine And.intro (show (_ + 1) * _ ≤ _ by omega) ?_; conv => whnf)
          | (refine And.intro (show _ + 1 ≤ _ by omega) ?_; conv => whnf)
          | (refine And.intro (by first | omega | (simp only [length_ints]; omega)) ?_; conv => whnf)
          | fail)
        all_goals first
          | exact absurd rfl hb
          | skip
        refine ⟨.inl rfl, ?_⟩
        conv => whnf
        refine ⟨[], ⟨rfl, trivial⟩, ?_, rfl, rfl⟩
        conv => whnf
        left
        conv => lhs; whnf
      · rename_i hc
        exact absurd hc (by decide)

end Go.Proofs.Ytpfbkblgefddlaa.Ct
