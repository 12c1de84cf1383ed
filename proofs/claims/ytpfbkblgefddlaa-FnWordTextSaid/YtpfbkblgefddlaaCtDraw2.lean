/- Draws of words: powers and turns of words. -/
import Derived.Test.YtpfbkblgefddlaaCtDraw1
namespace Go.Proofs.Ytpfbkblgefddlaa.Ct
set_option linter.unusedSimpArgs false
set_option linter.unusedVariables false
open Go Go.Proofs Go.Proofs.Ytpfbkblgefddlaa.Av

def c_spec_WordPower : ICode := (.seq (.reg [⟨(some 2), (.box 2), [(.t 0)], none⟩, ⟨(some 4), (.alc [.snil, .snil]), [], none⟩, ⟨(some 5), .mv, [(.c (.bool false))], none⟩]) (.seq (.seq (.reg [⟨(some 8), (.ldn 2), [(.t 2)], none⟩, ⟨(some 9), (.call 62), [(.t 8)], none⟩, ⟨(some 10), .not, [(.t 9)], none⟩, ⟨(some 11), .mv, [(.t 10)], none⟩, ⟨(some 12), .mv, [(.t 1)], (some (11, false))⟩, ⟨(some 13), (.call 69), [(.t 12), (.c (.int .i64 1)), (.c (.int .i64 40))], (some (11, false))⟩, ⟨(some 14), .not, [(.t 13)], (some (11, false))⟩, ⟨(some 15), .pick, [(.t 11), (.c (.bool true)), (.t 14)], none⟩]) (.cond (.t 15) (.seq (.reg [⟨(some 16), (.bld [.snil, .snil] []), [], none⟩, ⟨none, (.st 2), [(.t 4), (.t 16)], none⟩, ⟨(some 5), .mv, [(.c (.bool false))], none⟩]) .ret) .skip)) (.seq (.reg [⟨(some 17), .bsle, [], none⟩, ⟨(some 18), (.fadr 0), [(.t 2)], none⟩, ⟨(some 19), .ld1, [(.t 18)], none⟩, ⟨(some 20), (.app 1 8), [(.t 17), (.t 19)], none⟩, ⟨(some 21), (.bld [.snil, .snil] [(0, 1)]), [(.t 20)], none⟩, ⟨(some 6), (.alc [.snil, .snil]), [], none⟩, ⟨none, (.st 2), [(.t 6), (.t 21)], none⟩]) (.seq (.seq (.reg [⟨(some 7), .mv, [(.c (.int .i64 0))], none⟩]) (.block 0 (.loop (.seq (.seq (.reg [⟨(some 22), .mv, [(.t 7)], none⟩, ⟨(some 23), .mv, [(.t 1)], none⟩, ⟨(some 24), (.bin .lss), [(.t 22), (.t 23)], none⟩]) (.cond (.t 24) .skip (.exit 0))) (.seq (.block 1 (.reg [⟨(some 27), (.fadr 1), [(.t 6)], none⟩, ⟨(some 28), .ld1, [(.t 27)], none⟩, ⟨(some 29), (.fadr 1), [(.t 2)], none⟩, ⟨(some 30), .ld1, [(.t 29)], none⟩, ⟨(some 31), (.app 1 8), [(.t 28), (.t 30)], none⟩, ⟨(some 32), (.fadr 1), [(.t 6)], none⟩, ⟨none, (.st 1), [(.t 32), (.t 31)], none⟩])) (.reg [⟨(some 25), .mv, [(.t 7)], none⟩, ⟨(some 26), (.bin .add), [(.t 25), (.c (.int .i64 1))], none⟩, ⟨(some 7), .mv, [(.t 26)], none⟩])))))) (.seq (.reg [⟨(some 33), (.ldn 2), [(.t 6)], none⟩, ⟨(some 34), (.call 76), [(.t 33)], none⟩, ⟨(some 35), (.ext 0), [(.t 34)], none⟩, ⟨(some 36), (.ext 1), [(.t 34)], none⟩, ⟨none, (.st 2), [(.t 4), (.t 35)], none⟩, ⟨(some 5), .mv, [(.t 36)], none⟩]) .ret)))))
theorem b_spec_WordPower : Body Try.prog 138 37 c_spec_WordPower [(.cn 4 2), (.t 5)] := by
  have h1 : comp Try.prog 37 (Try.f138.body.getD .skip) = some c_spec_WordPower := by kernel_rfl
  have h2 : Try.f138.body = some (Try.f138.body.getD .skip) := by kernel_rfl
  have h3 : Try.f138.results.toList.map (cRes Try.prog) = [(some (.cn 4 2)), (some (.t 5))] := by kernel_rfl
  exact ⟨_, _, Try.func138, h2, Try.ntmps138, h1, h3, by decide⟩

def c_spec_WordTurn : ICode := (.seq (.reg [⟨(some 1), (.box 2), [(.t 0)], none⟩, ⟨(some 2), (.alc [.snil, .snil]), [], none⟩, ⟨(some 3), .mv, [(.c (.bool false))], none⟩]) (.seq (.seq (.reg [⟨(some 4), (.ldn 2), [(.t 1)], none⟩, ⟨(some 5), (.call 62), [(.t 4)], none⟩, ⟨(some 6), .not, [(.t 5)], none⟩]) (.cond (.t 6) (.seq (.reg [⟨(some 7), (.bld [.snil, .snil] []), [], none⟩, ⟨none, (.st 2), [(.t 2), (.t 7)], none⟩, ⟨(some 3), .mv, [(.c (.bool false))], none⟩]) .ret) .skip)) (.seq (.drw [⟨(some 8), .bsle, [], none⟩, ⟨(some 9), (.fadr 0), [(.t 1)], none⟩, ⟨(some 10), .ld1, [(.t 9)], none⟩, ⟨(some 11), (.app 1 8), [(.t 8), (.t 10)], none⟩, ⟨(some 12), (.fadr 1), [(.t 1)], none⟩, ⟨(some 13), .ld1, [(.t 12)], none⟩, ⟨(some 14), (.iadr 1), [(.t 13), (.c (.int .i64 0))], none⟩, ⟨(some 15), .ld1, [(.t 14)], none⟩, ⟨(some 16), (.bslv 1), [(.t 15)], none⟩, ⟨(some 17), (.app 1 8), [(.t 11), (.t 16)], none⟩, ⟨(some 18), .bsle, [], none⟩, ⟨(some 19), (.fadr 1), [(.t 1)], none⟩, ⟨(some 20), .ld1, [(.t 19)], none⟩, ⟨(some 21), (.slc 1 true false), [(.t 20), (.c (.int .i64 1))], none⟩, ⟨(some 22), (.app 1 8), [(.t 18), (.t 21)], none⟩, ⟨(some 23), (.fadr 1), [(.t 1)], none⟩, ⟨(some 24), .ld1, [(.t 23)], none⟩, ⟨(some 25), (.iadr 1), [(.t 24), (.c (.int .i64 0))], none⟩, ⟨(some 26), .ld1, [(.t 25)], none⟩, ⟨(some 27), (.bslv 1), [(.t 26)], none⟩, ⟨(some 28), (.app 1 8), [(.t 22), (.t 27)], none⟩, ⟨(some 29), (.bld [.snil, .snil] [(0, 1), (1, 1)]), [(.t 17), (.t 28)], none⟩, ⟨(some 30), (.call 76), [(.t 29)], none⟩, ⟨(some 31), (.ext 0), [(.t 30)], none⟩, ⟨(some 32), (.ext 1), [(.t 30)], none⟩, ⟨none, (.st 2), [(.t 2), (.t 31)], none⟩, ⟨(some 3), .mv, [(.t 32)], none⟩] [[], [], [1], [0, 1, 2], [], [4], [4, 5], [4, 5, 6], [4, 5, 6, 7], [0, 1, 2, 3, 4, 5, 6, 7, 8], [], [], [11], [11, 12], [0, 1, 2, 3, 4, 5, 6, 7, 8, 9, 10, 11, 12, 13], [], [15], [15, 16], [15, 16, 17], [15, 16, 17, 18], [0, 1, 2, 3, 4, 5, 6, 7, 8, 9, 10, 11, 12, 13, 14, 15, 16, 17, 18, 19], [0, 1, 2, 3, 4, 5, 6, 7, 8, 9, 10, 11, 12, 13, 14, 15, 16, 17, 18, 19, 20], [0, 1, 2, 3, 4, 5, 6, 7, 8, 9, 10, 11, 12, 13, 14, 15, 16, 17, 18, 19, 20, 21], [0, 1, 2, 3, 4, 5, 6, 7, 8, 9, 10, 11, 12, 13, 14, 15, 16, 17, 18, 19, 20, 21, 22], [0, 1, 2, 3, 4, 5, 6, 7, 8, 9, 10, 11, 12, 13, 14, 15, 16, 17, 18, 19, 20, 21, 22], [0, 1, 2, 3, 4, 5, 6, 7, 8, 9, 10, 11, 12, 13, 14, 15, 16, 17, 18, 19, 20, 21, 22, 23, 24], [0, 1, 2, 3, 4, 5, 6, 7, 8, 9, 10, 11, 12, 13, 14, 15, 16, 17, 18, 19, 20, 21, 22, 23, 24, 25]] false true) .ret)))
theorem b_spec_WordTurn : Body Try.prog 139 33 c_spec_WordTurn [(.cn 2 2), (.t 3)] := by
  have h1 : comp Try.prog 33 (Try.f139.body.getD .skip) = some c_spec_WordTurn := by kernel_rfl
  have h2 : Try.f139.body = some (Try.f139.body.getD .skip) := by kernel_rfl
  have h3 : Try.f139.results.toList.map (cRes Try.prog) = [(some (.cn 2 2)), (some (.t 3))] := by kernel_rfl
  exact ⟨_, _, Try.func139, h2, Try.ntmps139, h1, h3, by decide⟩


def powW (s l : List Int) : List Int × List Int × Bool := wordBack s (l ++ l) (wordOk s l 8)
def RWordPower (xs : List AV) (r : AV) (objs : List AObj) : Prop := ∃ s l, xs = [word s l, .int .i64 2] ∧ r = readR (powW s l) ∧ objs = readO (powW s l)
theorem RWordPower_eq {xs : List AV} {s l : List Int} (h : xs = [word s l, .int .i64 2]) : RWordPower xs (readR (powW s l)) (readO (powW s l)) := ⟨s, l, h, rfl, rfl⟩

def turnW (s l : List Int) : List Int × List Int × Bool := wordBack (s ++ [l.getD 0 0]) (l.drop 1 ++ [l.getD 0 0]) (wordOk s l 8)
def RWordTurn (xs : List AV) (r : AV) (objs : List AObj) : Prop := ∃ s l, xs = [word s l] ∧ r = readR (turnW s l) ∧ objs = readO (turnW s l)
theorem RWordTurn_eq {xs : List AV} {s l : List Int} (h : xs = [word s l]) : RWordTurn xs (readR (turnW s l)) (readO (turnW s l)) := ⟨s, l, h, rfl, rfl⟩

theorem GTold_nv (xs : List AV) (objs : List AObj) (Q : AV → List (Option AObj) → Prop) (h : GTold xs objs Q) : ∃ r out, Q r out := by
  obtain ⟨a, b, _, _, h1, h2⟩ := h
  cases hw : wordOk a b 8 with
  | true => exact ⟨_, _, h1 hw⟩
  | false => exact ⟨_, _, h2 hw⟩

theorem RRight_is {s l : List Int} {b : Bool} (h : wordOk s l 8 = b) : RRight [word s l] (.bool b) [] := by subst h; exact RRight_mk
theorem ints_one (l : List Int) : ∀ r ∈ ints l, r.length = 1 := by
  intro r hr
  simp only [ints, List.mem_map] at hr
  obtain ⟨x, _, rfl⟩ := hr
  rfl
theorem sub_one (l : List Int) (a b : Nat) : ∀ r ∈ sub (ints l) a b, r.length = 1 := fun r hr => ints_one l r (List.mem_of_mem_drop (List.mem_of_mem_take hr))
theorem ints_first {l : List Int} (h : 1 ≤ l.length) : (ints l)[(0 : Int).toNat]? = some [.int .i64 (l.getD 0 0)] := by
  have h0 : 0 < l.length := by omega
  simp [ints, List.getElem?_eq_getElem h0, List.getD_eq_getElem?_getD]

theorem GTold_eq {xs : List AV} {objs : List AObj} {a b : List Int} {Q : AV → List (Option AObj) → Prop} (hx : xs = [.agg [.ref 0 0 a.length, .ref 1 0 b.length]]) (ho : objs = [.arr 1 (ints a), .arr 1 (ints b)])
    (h1 : wordOk a b 8 = true → Q (.tup [.agg [.ref 0 0 a.length, .ref 1 0 b.length], .bool true]) [some (.arr 1 (ints a)), some (.arr 1 (ints b))])
    (h2 : wordOk a b 8 = false → Q (.tup [.agg [.snil, .snil], .bool false]) [some (.arr 1 (ints a)), some (.arr 1 (ints b))]) : GTold xs objs Q := by
  subst hx; subst ho; exact GTold_mk h1 h2

set_option maxHeartbeats 4000000 in
theorem s_spec_WordTurn : PureSound Try.prog 139 RWordTurn := by
  have hR : Rely Try.prog (ctxOf [(62, .pure RRight), (76, .gen 2 GTold)]) := rely_cons b_spec_l3Right.has s_spec_l3Right (rely_cons b_spec_l3Told.has s_spec_l3Told (rely_nil mixed))
  have hV : CtxNV (ctxOf [(62, .pure RRight), (76, .gen 2 GTold)]) := nv_pure (nv_gen GTold_nv nvNil)
  refine pure_of_aw b_spec_WordTurn ?_
  rintro xs r objs ⟨s, l, rfl, rfl, rfl⟩ -
  have hs := length_ints s
  have hl := length_ints l
  refine ⟨by simp, vc3_sound hR hV _ _ _ _ _ ?_⟩
  cases hw : wordOk s l 8 with
  | false =>
    conv => whnf
    repeat' (first
      | (refine And.intro (fun hb => ?_) (fun hb => ?_)
         all_goals (try simp only [decide_eq_true_eq, decide_eq_false_iff_not, Bool.not_eq_true', Bool.not_eq_false', Bool.not_not, ne_eq, length_ints, List.length_map, beq_iff_eq, bne_iff_ne, beq_eq_false_iff_ne, bne_eq_false_iff_eq, Int.not_le, Int.not_lt, ge_iff_le, gt_iff_lt, reduceCtorEq, not_false_eq_true, not_true_eq_false, Bool.false_eq_true, Bool.true_eq_false] at hb)
         all_goals (try (exfalso; omega))
         all_goals conv => whnf)
      | (refine And.intro (live_all rfl) ?_; conv => whnf)
      | (refine And.intro rfl ?_; conv => whnf)
      | (refine ⟨_, IntWalk.i64_in _ (by omega), ?_⟩; conv => whnf)
      | (refine And.intro (okcs_all rfl) ?_; conv => whnf)
      | (refine And.intro (okvs_all rfl) ?_; conv => whnf)
      | (refine And.intro (frees_all rfl) ?_; conv => whnf)
      | (refine And.intro (bsl_all rfl) ?_; conv => whnf)
      | (refine And.intro (lens_all rfl) ?_; conv => whnf)
      | (refine And.intro (Nat.le_of_ble_eq_true rfl) ?_; conv => whnf)
      | (rw [ints_at (by omega)]; conv => whnf)
      | (rw [ints_at0 (by omega)]; conv => whnf)
      | (rw [ints_at' (by omega) (by omega)]; conv => whnf)
      | (refine And.intro (show (_ + 1) * _ ≤ _ by omega) ?_; conv => whnf)
      | (refine And.intro (show _ + 1 ≤ _ by omega) ?_; conv => whnf)
      | (refine And.intro (by first | omega | (simp only [length_ints]; omega)) ?_; conv => whnf)
      | (refine ⟨_, _, RRight_is hw, ?_⟩; conv => whnf)
      | fail)
    have e : turnW s l = ([], [], false) := by simp [turnW, wordBack, hw]
    rw [e]
    refine ⟨.inl rfl, ?_⟩
    conv => whnf
    refine And.intro (Nat.le_of_ble_eq_true rfl) ?_
    conv => whnf
    refine ⟨[none, none], ⟨rfl, And.intro rfl (And.intro rfl trivial)⟩, And.intro (And.intro ⟨rfl, rfl, rfl⟩ (And.intro ⟨rfl, rfl, rfl⟩ trivial)) (And.intro (.inl rfl) trivial), rfl, by simp [readO, AObj.nov, ints_nov]⟩
  | true =>
    obtain ⟨w1, w2, w3, _, _⟩ := wordOk_parts hw
    conv => whnf
    repeat' (first
      | (refine And.intro (fun hb => ?_) (fun hb => ?_)
         all_goals (try simp only [decide_eq_true_eq, decide_eq_false_iff_not, Bool.not_eq_true', Bool.not_eq_false', Bool.not_not, ne_eq, length_ints, List.length_map, beq_iff_eq, bne_iff_ne, beq_eq_false_iff_ne, bne_eq_false_iff_eq, Int.not_le, Int.not_lt, ge_iff_le, gt_iff_lt, reduceCtorEq, not_false_eq_true, not_true_eq_false, Bool.false_eq_true, Bool.true_eq_false] at hb)
         all_goals (try (exfalso; omega))
         all_goals conv => whnf)
      | (refine And.intro (live_all rfl) ?_; conv => whnf)
      | (refine And.intro rfl ?_; conv => whnf)
      | (refine ⟨_, IntWalk.i64_in _ (by omega), ?_⟩; conv => whnf)
      | (refine And.intro (okcs_all rfl) ?_; conv => whnf)
      | (refine And.intro (okvs_all rfl) ?_; conv => whnf)
      | (refine And.intro (frees_all rfl) ?_; conv => whnf)
      | (refine And.intro (bsl_all rfl) ?_; conv => whnf)
      | (refine And.intro (lens_all rfl) ?_; conv => whnf)
      | (refine And.intro (Nat.le_of_ble_eq_true rfl) ?_; conv => whnf)
      | (rw [ints_at (by omega)]; conv => whnf)
      | (rw [ints_at0 (by omega)]; conv => whnf)
      | (rw [ints_at' (by omega) (by omega)]; conv => whnf)
      | (refine And.intro (show (_ + 1) * _ ≤ _ by omega) ?_; conv => whnf)
      | (refine And.intro (show _ + 1 ≤ _ by omega) ?_; conv => whnf)
      | (refine And.intro (by first | omega | (simp only [length_ints]; omega)) ?_; conv => whnf)
      | (refine ⟨_, _, RRight_is hw, ?_⟩; conv => whnf)
      | (refine And.intro (ints_one _) ?_; conv => whnf)
      | (refine And.intro (sub_one _ _ _) ?_; conv => whnf)
      | (rw [ints_first (by omega)]; conv => whnf)
      | fail)
    have e1 : sub (ints l) (Int.toNat 1) (((ints l).length : Int) - 1).toNat = ints (l.drop 1) := by
      have : (((ints l).length : Int) - 1).toNat = l.length - 1 := by omega
      rw [this]
      show ((ints l).drop 1).take (l.length - 1) = _
      rw [List.take_of_length_le (by simp [ints])]
      simp [ints]
    have hd := length_ints (l.drop 1)
    have hd2 : (l.drop 1).length = l.length - 1 := by simp
    rw [e1]
    conv => whnf
    repeat' (first
      | (refine And.intro (fun hb => ?_) (fun hb => ?_)
         all_goals (try simp only [decide_eq_true_eq, decide_eq_false_iff_not, Bool.not_eq_true', Bool.not_eq_false', Bool.not_not, ne_eq, length_ints, List.length_map, beq_iff_eq, bne_iff_ne, beq_eq_false_iff_ne, bne_eq_false_iff_eq, Int.not_le, Int.not_lt, ge_iff_le, gt_iff_lt, reduceCtorEq, not_false_eq_true, not_true_eq_false, Bool.false_eq_true, Bool.true_eq_false] at hb)
         all_goals (try (exfalso; omega))
         all_goals conv => whnf)
      | (refine And.intro (live_all rfl) ?_; conv => whnf)
      | (refine And.intro rfl ?_; conv => whnf)
      | (refine ⟨_, IntWalk.i64_in _ (by omega), ?_⟩; conv => whnf)
      | (refine And.intro (okcs_all rfl) ?_; conv => whnf)
      | (refine And.intro (okvs_all rfl) ?_; conv => whnf)
      | (refine And.intro (frees_all rfl) ?_; conv => whnf)
      | (refine And.intro (bsl_all rfl) ?_; conv => whnf)
      | (refine And.intro (lens_all rfl) ?_; conv => whnf)
      | (refine And.intro (Nat.le_of_ble_eq_true rfl) ?_; conv => whnf)
      | (rw [ints_at (by omega)]; conv => whnf)
      | (rw [ints_at0 (by omega)]; conv => whnf)
      | (rw [ints_at' (by omega) (by omega)]; conv => whnf)
      | (refine And.intro (show (_ + 1) * _ ≤ _ by omega) ?_; conv => whnf)
      | (refine And.intro (show _ + 1 ≤ _ by omega) ?_; conv => whnf)
      | (refine And.intro (by first | omega | (simp only [length_ints]; omega)) ?_; conv => whnf)
      | (rw [ints_first (by omega)]; conv => whnf)
      | fail)
    refine ⟨GTold_eq (a := s ++ [l.getD 0 0]) (b := l.drop 1 ++ [l.getD 0 0]) ?_ ?_ (fun hw2 => ?_) (fun hw2 => ?_)⟩
    · show [AV.agg [AV.ref 0 0 ((ints s).length + 1), AV.ref 1 0 ((ints (l.drop 1)).length + 1)]] = _
      rw [hs, hd]
      simp
    · show [AObj.arr 1 (List.take (ints s).length (ints s) ++ [[.int .i64 (l.getD 0 0)]]), AObj.arr 1 (List.take (ints (l.drop 1)).length (ints (l.drop 1)) ++ [[.int .i64 (l.getD 0 0)]])] = _
      rw [app_step s _ _ hs, app_step (l.drop 1) _ _ hd]
    · have e : turnW s l = (s ++ [l.getD 0 0], l.drop 1 ++ [l.getD 0 0], true) := by simp only [turnW, wordBack, hw, hw2, Bool.and_self, if_true]
      rw [e]
      conv => whnf
      repeat' (first
        | (refine And.intro (fun hb => ?_) (fun hb => ?_)
           all_goals (try simp only [decide_eq_true_eq, decide_eq_false_iff_not, Bool.not_eq_true', Bool.not_eq_false', Bool.not_not, ne_eq, length_ints, List.length_map, beq_iff_eq, bne_iff_ne, beq_eq_false_iff_ne, bne_eq_false_iff_eq, Int.not_le, Int.not_lt, ge_iff_le, gt_iff_lt, reduceCtorEq, not_false_eq_true, not_true_eq_false, Bool.false_eq_true, Bool.true_eq_false] at hb)
           all_goals (try (exfalso; omega))
           all_goals conv => whnf)
        | (refine And.intro (live_all rfl) ?_; conv => whnf)
        | (refine And.intro rfl ?_; conv => whnf)
        | (refine ⟨_, IntWalk.i64_in _ (by omega), ?_⟩; conv => whnf)
        | (refine And.intro (okcs_all rfl) ?_; conv => whnf)
        | (refine And.intro (okvs_all rfl) ?_; conv => whnf)
        | (refine And.intro (frees_all rfl) ?_; conv => whnf)
        | (refine And.intro (bsl_all rfl) ?_; conv => whnf)
        | (refine And.intro (lens_all rfl) ?_; conv => whnf)
        | (refine And.intro (Nat.le_of_ble_eq_true rfl) ?_; conv => whnf)
        | (rw [ints_at (by omega)]; conv => whnf)
        | (rw [ints_at0 (by omega)]; conv => whnf)
        | (rw [ints_at' (by omega) (by omega)]; conv => whnf)
        | (refine And.intro (show (_ + 1) * _ ≤ _ by omega) ?_; conv => whnf)
        | (refine And.intro (show _ + 1 ≤ _ by omega) ?_; conv => whnf)
        | (refine And.intro (by first | omega | (simp only [length_ints]; omega)) ?_; conv => whnf)
        | fail)
      refine ⟨.inl rfl, ?_⟩
      conv => whnf
      refine And.intro (Nat.le_of_ble_eq_true rfl) ?_
      conv => whnf
      refine ⟨[some 3, some 5], ⟨rfl, And.intro (And.intro rfl rfl) (And.intro (And.intro rfl rfl) trivial)⟩, And.intro (And.intro rfl (And.intro rfl trivial)) (And.intro (.inl rfl) trivial), rfl, by simp [readO, AObj.nov, ints_nov]⟩
    · have e : turnW s l = ([], [], false) := by simp only [turnW, wordBack, hw, hw2, Bool.and_false, Bool.false_eq_true, if_false]
      rw [e]
      conv => whnf
      repeat' (first
        | (refine And.intro (fun hb => ?_) (fun hb => ?_)
           all_goals (try simp only [decide_eq_true_eq, decide_eq_false_iff_not, Bool.not_eq_true', Bool.not_eq_false', Bool.not_not, ne_eq, length_ints, List.length_map, beq_iff_eq, bne_iff_ne, beq_eq_false_iff_ne, bne_eq_false_iff_eq, Int.not_le, Int.not_lt, ge_iff_le, gt_iff_lt, reduceCtorEq, not_false_eq_true, not_true_eq_false, Bool.false_eq_true, Bool.true_eq_false] at hb)
           all_goals (try (exfalso; omega))
           all_goals conv => whnf)
        | (refine And.intro (live_all rfl) ?_; conv => whnf)
        | (refine And.intro rfl ?_; conv => whnf)
        | (refine ⟨_, IntWalk.i64_in _ (by omega), ?_⟩; conv => whnf)
        | (refine And.intro (okcs_all rfl) ?_; conv => whnf)
        | (refine And.intro (okvs_all rfl) ?_; conv => whnf)
        | (refine And.intro (frees_all rfl) ?_; conv => whnf)
        | (refine And.intro (bsl_all rfl) ?_; conv => whnf)
        | (refine And.intro (lens_all rfl) ?_; conv => whnf)
        | (refine And.intro (Nat.le_of_ble_eq_true rfl) ?_; conv => whnf)
        | (rw [ints_at (by omega)]; conv => whnf)
        | (rw [ints_at0 (by omega)]; conv => whnf)
        | (rw [ints_at' (by omega) (by omega)]; conv => whnf)
        | (refine And.intro (show (_ + 1) * _ ≤ _ by omega) ?_; conv => whnf)
        | (refine And.intro (show _ + 1 ≤ _ by omega) ?_; conv => whnf)
        | (refine And.intro (by first | omega | (simp only [length_ints]; omega)) ?_; conv => whnf)
        | fail)
      refine ⟨.inl rfl, ?_⟩
      conv => whnf
      refine And.intro (Nat.le_of_ble_eq_true rfl) ?_
      conv => whnf
      refine ⟨[none, none], ⟨rfl, And.intro rfl (And.intro rfl trivial)⟩, And.intro (And.intro ⟨rfl, rfl, rfl⟩ (And.intro ⟨rfl, rfl, rfl⟩ trivial)) (And.intro (.inl rfl) trivial), rfl, by simp [readO, AObj.nov, ints_nov]⟩

/-- a list, some times -/
def times (l : List Int) : Nat → List Int
  | 0 => []
  | i + 1 => times l i ++ l

theorem times_le (l : List Int) : ∀ i, (times l i).length = i * l.length
  | 0 => by simp [times]
  | i + 1 => by simp [times, times_le l i, Nat.add_mul]

set_option maxHeartbeats 4000000 in
theorem s_spec_WordPower : PureSound Try.prog 138 RWordPower := by
  have hR : Rely Try.prog (ctxOf [(62, .pure RRight), (69, .pure RIn), (76, .gen 2 GTold)]) := rely_cons b_spec_l3Right.has s_spec_l3Right (rely_cons b_spec_l1In.has s_spec_l1In (rely_cons b_spec_l3Told.has s_spec_l3Told (rely_nil mixed)))
  refine pure_of_aw b_spec_WordPower ?_
  rintro xs r objs ⟨s, l, rfl, rfl, rfl⟩ -
  have hs := length_ints s
  have hl := length_ints l
  refine ⟨by simp, vc2_sound hR _ _ _ _ _ ?_⟩
  cases hw : wordOk s l 8 with
  | false =>
    conv => whnf
    repeat' (first
      | (refine And.intro (fun hb => ?_) (fun hb => ?_)
         all_goals (try simp only [decide_eq_true_eq, decide_eq_false_iff_not, Bool.not_eq_true', Bool.not_eq_false', Bool.not_not, ne_eq, length_ints, List.length_map, beq_iff_eq, bne_iff_ne, beq_eq_false_iff_ne, bne_eq_false_iff_eq, Int.not_le, Int.not_lt, ge_iff_le, gt_iff_lt, reduceCtorEq, not_false_eq_true, not_true_eq_false, Bool.false_eq_true, Bool.true_eq_false] at hb)
         all_goals (try (exfalso; omega))
         all_goals conv => whnf)
      | (refine And.intro (live_all rfl) ?_; conv => whnf)
      | (refine And.intro rfl ?_; conv => whnf)
      | (refine ⟨_, IntWalk.i64_in _ (by omega), ?_⟩; conv => whnf)
      | (refine And.intro (okcs_all rfl) ?_; conv => whnf)
      | (refine And.intro (okvs_all rfl) ?_; conv => whnf)
      | (refine And.intro (frees_all rfl) ?_; conv => whnf)
      | (refine And.intro (bsl_all rfl) ?_; conv => whnf)
      | (refine And.intro (lens_all rfl) ?_; conv => whnf)
      | (refine And.intro (Nat.le_of_ble_eq_true rfl) ?_; conv => whnf)
      | (rw [ints_at (by omega)]; conv => whnf)
      | (rw [ints_at0 (by omega)]; conv => whnf)
      | (rw [ints_at' (by omega) (by omega)]; conv => whnf)
      | (refine And.intro (show (_ + 1) * _ ≤ _ by omega) ?_; conv => whnf)
      | (refine And.intro (show _ + 1 ≤ _ by omega) ?_; conv => whnf)
      | (refine And.intro (by first | omega | (simp only [length_ints]; omega)) ?_; conv => whnf)
      | (refine ⟨_, _, RRight_is hw, ?_⟩; conv => whnf)
      | fail)
    have e : powW s l = ([], [], false) := by simp [powW, wordBack, hw]
    rw [e]
    refine ⟨.inl rfl, ?_⟩
    conv => whnf
    refine And.intro (Nat.le_of_ble_eq_true rfl) ?_
    conv => whnf
    refine ⟨[none, none], ⟨rfl, And.intro rfl (And.intro rfl trivial)⟩, And.intro (And.intro ⟨rfl, rfl, rfl⟩ (And.intro ⟨rfl, rfl, rfl⟩ trivial)) (And.intro (.inl rfl) trivial), rfl, by simp [readO, AObj.nov, ints_nov]⟩
  | true =>
    obtain ⟨w1, w2, w3, _, _⟩ := wordOk_parts hw
    conv => whnf
    repeat' (first
      | (refine And.intro (fun hb => ?_) (fun hb => ?_)
         all_goals (try simp only [decide_eq_true_eq, decide_eq_false_iff_not, Bool.not_eq_true', Bool.not_eq_false', Bool.not_not, ne_eq, length_ints, List.length_map, beq_iff_eq, bne_iff_ne, beq_eq_false_iff_ne, bne_eq_false_iff_eq, Int.not_le, Int.not_lt, ge_iff_le, gt_iff_lt, reduceCtorEq, not_false_eq_true, not_true_eq_false, Bool.false_eq_true, Bool.true_eq_false] at hb)
         all_goals (try (exfalso; omega))
         all_goals conv => whnf)
      | (refine And.intro (live_all rfl) ?_; conv => whnf)
      | (refine And.intro rfl ?_; conv => whnf)
      | (refine ⟨_, IntWalk.i64_in _ (by omega), ?_⟩; conv => whnf)
      | (refine And.intro (okcs_all rfl) ?_; conv => whnf)
      | (refine And.intro (okvs_all rfl) ?_; conv => whnf)
      | (refine And.intro (frees_all rfl) ?_; conv => whnf)
      | (refine And.intro (bsl_all rfl) ?_; conv => whnf)
      | (refine And.intro (lens_all rfl) ?_; conv => whnf)
      | (refine And.intro (Nat.le_of_ble_eq_true rfl) ?_; conv => whnf)
      | (rw [ints_at (by omega)]; conv => whnf)
      | (rw [ints_at0 (by omega)]; conv => whnf)
      | (rw [ints_at' (by omega) (by omega)]; conv => whnf)
      | (refine And.intro (show (_ + 1) * _ ≤ _ by omega) ?_; conv => whnf)
      | (refine And.intro (show _ + 1 ≤ _ by omega) ?_; conv => whnf)
      | (refine And.intro (by first | omega | (simp only [length_ints]; omega)) ?_; conv => whnf)
      | (refine ⟨_, _, RRight_is hw, ?_⟩; conv => whnf)
      | (refine ⟨_, _, RIn_mk, ?_⟩; conv => whnf)
      | (refine And.intro (ints_one _) ?_; conv => whnf)
      | fail)
    refine Lp.intro (α := Nat) (fun i => i ≤ 2) (fun i => 2 - i) (fun i => [(1, .int .i64 2), (2, .ptr 0 0 0), (4, .ptr 1 0 0), (6, .ptr 3 0 0), (7, .int .i64 i)])
      (fun i => [some (.box [.val (ints s), .val (ints l)]), some (.box [.snil, .snil]), some (.arr 1 (ints s)), some (.box [.ref 2 0 (ints s).length, .ref 4 0 (times l i).length]), some (.arr 1 (ints (times l i)))]) ?_ ?_
    · refine ⟨0, by omega, [some 0, some 1, some 2, some 3, none], rfl, rfl, ?_, ?_⟩
      · exact And.intro (And.intro (.inl rfl) (And.intro (.inl rfl) trivial)) (And.intro (And.intro (.inl rfl) (And.intro (.inl rfl) trivial)) (And.intro (And.intro rfl rfl) (And.intro (And.intro rfl (And.intro ⟨rfl, rfl, rfl⟩ trivial)) (And.intro rfl trivial))))
      · repeat' (first
          | exact trivial
          | refine ⟨?_, ?_⟩
          | fail)
        all_goals first
          | with_reducible rfl
          | (conv => whnf
             try left
             conv => lhs; whnf
             first
               | rfl
               | exact congrArg (AV.int .i64) (by omega)
               | skip)
    · intro i hi
      have ht := length_ints (times l i)
      have htl := times_le l i
      have hb40 : (times l i).length ≤ 80 := by
        rw [htl]
        have : i * l.length ≤ 2 * 40 := Nat.mul_le_mul hi w3
        omega
      refine vc2_sound hR _ _ _ _ _ ?_
      conv => whnf
      repeat' (first
        | (refine And.intro (fun hb => ?_) (fun hb => ?_)
           all_goals (try simp only [decide_eq_true_eq, decide_eq_false_iff_not, Bool.not_eq_true', Bool.not_eq_false', Bool.not_not, ne_eq, length_ints, List.length_map, beq_iff_eq, bne_iff_ne, beq_eq_false_iff_ne, bne_eq_false_iff_eq, Int.not_le, Int.not_lt, ge_iff_le, gt_iff_lt, reduceCtorEq, not_false_eq_true, not_true_eq_false, Bool.false_eq_true, Bool.true_eq_false] at hb)
           all_goals (try (exfalso; omega))
           all_goals conv => whnf)
        | (refine And.intro (live_all rfl) ?_; conv => whnf)
        | (refine And.intro rfl ?_; conv => whnf)
        | (refine ⟨_, IntWalk.i64_in _ (by omega), ?_⟩; conv => whnf)
        | (refine And.intro (okcs_all rfl) ?_; conv => whnf)
        | (refine And.intro (okvs_all rfl) ?_; conv => whnf)
        | (refine And.intro (frees_all rfl) ?_; conv => whnf)
        | (refine And.intro (bsl_all rfl) ?_; conv => whnf)
        | (refine And.intro (lens_all rfl) ?_; conv => whnf)
        | (refine And.intro (Nat.le_of_ble_eq_true rfl) ?_; conv => whnf)
        | (rw [ints_at (by omega)]; conv => whnf)
        | (rw [ints_at0 (by omega)]; conv => whnf)
        | (rw [ints_at' (by omega) (by omega)]; conv => whnf)
        | (refine And.intro (show (_ + 1) * _ ≤ _ by omega) ?_; conv => whnf)
        | (refine And.intro (show _ + 1 ≤ _ by omega) ?_; conv => whnf)
        | (refine And.intro (by first | omega | (simp only [length_ints]; omega)) ?_; conv => whnf)
        | (refine And.intro (ints_one _) ?_; conv => whnf)
        | fail)
      · refine ⟨i + 1, by omega, by omega, [some 0, some 1, some 2, some 3, some 5], rfl, rfl, ?_, ?_⟩
        · refine And.intro (And.intro (.inl rfl) (And.intro (.inl rfl) trivial)) (And.intro (And.intro (.inl rfl) (And.intro (.inl rfl) trivial)) (And.intro (And.intro rfl rfl) (And.intro (And.intro rfl (And.intro ?_ trivial)) (And.intro (And.intro rfl ?_) trivial))))
          · show AV.ref 5 0 ((times l i).length + (ints l).length) = AV.ref 5 0 (times l i ++ l).length
            rw [hl]; simp
          · show List.take (times l i).length (ints (times l i)) ++ ints l = ints (times l i ++ l)
            rw [List.take_of_length_le (by omega)]
            simp [ints]
        · repeat' (first
            | exact trivial
            | refine ⟨?_, ?_⟩
            | fail)
          all_goals first
            | with_reducible rfl
            | (conv => whnf
               try left
               conv => lhs; whnf
               first
                 | rfl
                 | exact congrArg (AV.int .i64) (by omega)
                 | skip)
      · have hi2 : i = 2 := by omega
        subst hi2
        have ht2 : times l 2 = l ++ l := by simp [times]
        rw [ht2] at *
        refine ⟨GTold_eq (a := s) (b := l ++ l) ?_ ?_ (fun hw2 => ?_) (fun hw2 => ?_)⟩
        · show [AV.agg [AV.ref 0 0 (ints s).length, AV.ref 1 0 (l ++ l).length]] = _
          rw [hs]
        · rfl
        · have e : powW s l = (s, l ++ l, true) := by simp only [powW, wordBack, hw, hw2, Bool.and_self, if_true]
          rw [e]
          conv => whnf
          repeat' (first
            | (refine And.intro (fun hb => ?_) (fun hb => ?_)
               all_goals (try simp only [decide_eq_true_eq, decide_eq_false_iff_not, Bool.not_eq_true', Bool.not_eq_false', Bool.not_not, ne_eq, length_ints, List.length_map, beq_iff_eq, bne_iff_ne, beq_eq_false_iff_ne, bne_eq_false_iff_eq, Int.not_le, Int.not_lt, ge_iff_le, gt_iff_lt, reduceCtorEq, not_false_eq_true, not_true_eq_false, Bool.false_eq_true, Bool.true_eq_false] at hb)
               all_goals (try (exfalso; omega))
               all_goals conv => whnf)
            | (refine And.intro (live_all rfl) ?_; conv => whnf)
            | (refine And.intro rfl ?_; conv => whnf)
            | (refine ⟨_, IntWalk.i64_in _ (by omega), ?_⟩; conv => whnf)
            | (refine And.intro (okcs_all rfl) ?_; conv => whnf)
            | (refine And.intro (okvs_all rfl) ?_; conv => whnf)
            | (refine And.intro (frees_all rfl) ?_; conv => whnf)
            | (refine And.intro (bsl_all rfl) ?_; conv => whnf)
            | (refine And.intro (lens_all rfl) ?_; conv => whnf)
            | (refine And.intro (Nat.le_of_ble_eq_true rfl) ?_; conv => whnf)
            | (rw [ints_at (by omega)]; conv => whnf)
            | (rw [ints_at0 (by omega)]; conv => whnf)
            | (rw [ints_at' (by omega) (by omega)]; conv => whnf)
            | (refine And.intro (show (_ + 1) * _ ≤ _ by omega) ?_; conv => whnf)
            | (refine And.intro (show _ + 1 ≤ _ by omega) ?_; conv => whnf)
            | (refine And.intro (by first | omega | (simp only [length_ints]; omega)) ?_; conv => whnf)
            | fail)
          refine ⟨.inl rfl, ?_⟩
          conv => whnf
          refine And.intro (Nat.le_of_ble_eq_true rfl) ?_
          conv => whnf
          refine ⟨[some 2, some 4], ⟨rfl, And.intro (And.intro rfl rfl) (And.intro (And.intro rfl rfl) trivial)⟩, And.intro (And.intro rfl (And.intro rfl trivial)) (And.intro (.inl rfl) trivial), rfl, by simp [readO, AObj.nov, ints_nov]⟩
        · have e : powW s l = ([], [], false) := by simp only [powW, wordBack, hw, hw2, Bool.and_false, Bool.false_eq_true, if_false]
          rw [e]
          conv => whnf
          repeat' (first
            | (refine And.intro (fun hb => ?_) (fun hb => ?_)
               all_goals (try simp only [decide_eq_true_eq, decide_eq_false_iff_not, Bool.not_eq_true', Bool.not_eq_false', Bool.not_not, ne_eq, length_ints, List.length_map, beq_iff_eq, bne_iff_ne, beq_eq_false_iff_ne, bne_eq_false_iff_eq, Int.not_le, Int.not_lt, ge_iff_le, gt_iff_lt, reduceCtorEq, not_false_eq_true, not_true_eq_false, Bool.false_eq_true, Bool.true_eq_false] at hb)
               all_goals (try (exfalso; omega))
               all_goals conv => whnf)
            | (refine And.intro (live_all rfl) ?_; conv => whnf)
            | (refine And.intro rfl ?_; conv => whnf)
            | (refine ⟨_, IntWalk.i64_in _ (by omega), ?_⟩; conv => whnf)
            | (refine And.intro (okcs_all rfl) ?_; conv => whnf)
            | (refine And.intro (okvs_all rfl) ?_; conv => whnf)
            | (refine And.intro (frees_all rfl) ?_; conv => whnf)
            | (refine And.intro (bsl_all rfl) ?_; conv => whnf)
            | (refine And.intro (lens_all rfl) ?_; conv => whnf)
            | (refine And.intro (Nat.le_of_ble_eq_true rfl) ?_; conv => whnf)
            | (rw [ints_at (by omega)]; conv => whnf)
            | (rw [ints_at0 (by omega)]; conv => whnf)
            | (rw [ints_at' (by omega) (by omega)]; conv => whnf)
            | (refine And.intro (show (_ + 1) * _ ≤ _ by omega) ?_; conv => whnf)
            | (refine And.intro (show _ + 1 ≤ _ by omega) ?_; conv => whnf)
            | (refine And.intro (by first | omega | (simp only [length_ints]; omega)) ?_; conv => whnf)
            | fail)
          refine ⟨.inl rfl, ?_⟩
          conv => whnf
          refine And.intro (Nat.le_of_ble_eq_true rfl) ?_
          conv => whnf
          refine ⟨[none, none], ⟨rfl, And.intro rfl (And.intro rfl trivial)⟩, And.intro (And.intro ⟨rfl, rfl, rfl⟩ (And.intro ⟨rfl, rfl, rfl⟩ trivial)) (And.intro (.inl rfl) trivial), rfl, by simp [readO, AObj.nov, ints_nov]⟩

end Go.Proofs.Ytpfbkblgefddlaa.Ct
