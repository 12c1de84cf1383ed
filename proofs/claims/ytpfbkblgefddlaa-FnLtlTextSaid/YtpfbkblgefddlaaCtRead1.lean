/- Words read from text: the program's reading, the reference's reading. -/
import Derived.Test.YtpfbkblgefddlaaCtCut
namespace Go.Proofs.Ytpfbkblgefddlaa.Ct
set_option linter.unusedSimpArgs false
set_option linter.unusedVariables false
open Go Go.Proofs Go.Proofs.Ytpfbkblgefddlaa.Av

def c_impl_lettersOf : ICode := (.seq (.reg [⟨(some 2), .mv, [(.c .snil)], none⟩]) (.seq (.reg [⟨(some 3), .mv, [(.c .snil)], none⟩]) (.seq (.seq (.reg [⟨(some 6), .mv, [(.t 0)], none⟩, ⟨(some 7), .s2b, [(.t 6)], none⟩, ⟨(some 8), .len, [(.t 7)], none⟩, ⟨(some 9), .mv, [(.c (.int .i64 0))], none⟩]) (.block 0 (.loop (.seq (.reg [⟨(some 10), (.bin .lss), [(.t 9), (.t 8)], none⟩]) (.seq (.cond (.t 10) .skip (.exit 0)) (.seq (.block 1 (.seq (.reg [⟨(some 11), (.iadr 1), [(.t 7), (.t 9)], none⟩, ⟨(some 12), .ld1, [(.t 11)], none⟩, ⟨(some 5), .mv, [(.t 12)], none⟩]) (.reg [⟨(some 13), .mv, [(.t 3)], none⟩, ⟨(some 14), .mv, [(.t 5)], none⟩, ⟨(some 15), (.cvt .i64), [(.t 14)], none⟩, ⟨(some 16), (.bin .sub), [(.t 15), (.c (.int .i64 48))], none⟩, ⟨(some 17), (.bslv 1), [(.t 16)], none⟩, ⟨(some 18), (.app 1 8), [(.t 13), (.t 17)], none⟩, ⟨(some 3), .mv, [(.t 18)], none⟩]))) (.reg [⟨(some 19), (.bin .add), [(.t 9), (.c (.int .i64 1))], none⟩, ⟨(some 9), .mv, [(.t 19)], none⟩]))))))) (.seq (.reg [⟨(some 20), .mv, [(.t 3)], none⟩, ⟨(some 2), .mv, [(.t 20)], none⟩]) .ret))))
theorem b_impl_lettersOf : Body Try.prog 78 21 c_impl_lettersOf [(.t 2)] := by
  have h1 : comp Try.prog 21 (Try.f78.body.getD .skip) = some c_impl_lettersOf := by kernel_rfl
  have h2 : Try.f78.body = some (Try.f78.body.getD .skip) := by kernel_rfl
  have h3 : Try.f78.results.toList.map (cRes Try.prog) = [(some (.t 2))] := by kernel_rfl
  exact ⟨_, _, Try.func78, h2, Try.ntmps78, h1, h3, by decide⟩

def c_impl_WordRead : ICode := (.seq (.reg [⟨(some 2), (.alc [.snil, .snil]), [], none⟩, ⟨(some 3), .mv, [(.c (.bool false))], none⟩]) (.seq (.reg [⟨(some 9), .mv, [(.t 0)], none⟩, ⟨(some 10), (.call 77), [(.t 9), (.c (.str [59]))], none⟩, ⟨(some 8), .mv, [(.t 10)], none⟩, ⟨(some 11), (.ext 0), [(.t 8)], none⟩, ⟨(some 12), (.ext 1), [(.t 8)], none⟩, ⟨(some 13), (.ext 2), [(.t 8)], none⟩, ⟨(some 4), .mv, [(.t 11)], none⟩, ⟨(some 5), .mv, [(.t 12)], none⟩, ⟨(some 6), .mv, [(.t 13)], none⟩]) (.seq (.reg [⟨(some 14), .mv, [(.t 4)], none⟩, ⟨(some 15), (.call 78), [(.t 14)], none⟩, ⟨(some 16), .mv, [(.t 5)], none⟩, ⟨(some 17), (.call 78), [(.t 16)], none⟩, ⟨(some 18), (.bld [.snil, .snil] [(0, 1), (1, 1)]), [(.t 15), (.t 17)], none⟩, ⟨(some 7), (.alc [.snil, .snil]), [], none⟩, ⟨none, (.st 2), [(.t 7), (.t 18)], none⟩]) (.seq (.seq (.reg [⟨(some 19), .mv, [(.t 6)], none⟩, ⟨(some 20), .not, [(.t 19)], none⟩, ⟨(some 21), .mv, [(.t 20)], none⟩, ⟨(some 22), (.ldn 2), [(.t 7)], (some (21, false))⟩, ⟨(some 23), (.call 65), [(.t 22)], (some (21, false))⟩, ⟨(some 24), .not, [(.t 23)], (some (21, false))⟩, ⟨(some 25), .pick, [(.t 21), (.c (.bool true)), (.t 24)], none⟩]) (.cond (.t 25) (.seq (.reg [⟨(some 26), (.bld [.snil, .snil] []), [], none⟩, ⟨none, (.st 2), [(.t 2), (.t 26)], none⟩, ⟨(some 3), .mv, [(.c (.bool false))], none⟩]) .ret) .skip)) (.seq (.reg [⟨(some 27), (.ldn 2), [(.t 7)], none⟩, ⟨none, (.st 2), [(.t 2), (.t 27)], none⟩, ⟨(some 3), .mv, [(.c (.bool true))], none⟩]) .ret)))))
theorem b_impl_WordRead : Body Try.prog 24 28 c_impl_WordRead [(.cn 2 2), (.t 3)] := by
  have h1 : comp Try.prog 28 (Try.f24.body.getD .skip) = some c_impl_WordRead := by kernel_rfl
  have h2 : Try.f24.body = some (Try.f24.body.getD .skip) := by kernel_rfl
  have h3 : Try.f24.results.toList.map (cRes Try.prog) = [(some (.cn 2 2)), (some (.t 3))] := by kernel_rfl
  exact ⟨_, _, Try.func24, h2, Try.ntmps24, h1, h3, by decide⟩


/-- digits as numbers -/
def nums (s : List UInt8) : List Int := s.map fun b => (b.toNat : Int) - 48
theorem length_nums (s : List UInt8) : (nums s).length = s.length := by simp [nums]

theorem nums_take {s : List UInt8} {i : Nat} (h : i < s.length) : nums (s.take (i + 1)) = nums (s.take i) ++ [((s.getD i 0).toNat : Int) - 48] := by
  have e : s.take (i + 1) = s.take i ++ [s.getD i 0] := by
    rw [List.take_add_one, List.getElem?_eq_getElem h]
    simp [List.getD_eq_getElem?_getD, List.getElem?_eq_getElem h]
  rw [e]
  simp only [nums, List.map_append, List.map_cons, List.map_nil]

theorem byte_le (b : UInt8) : b.toNat ≤ 255 := by
  have := UInt8.toNat_lt b
  omega

theorem byte_at {s : List UInt8} {i : Nat} (h : i < s.length) : (s.map byteRow)[((i : Nat) : Int).toNat]? = some [.int .u8 (s.getD i 0).toNat] := by
  simp [byteRow, List.getElem?_eq_getElem h, List.getD_eq_getElem?_getD]

def RLettersOf (xs : List AV) (r : AV) (objs : List AObj) : Prop := ∃ s, xs = [.str s] ∧ s.length ≤ 1048576 ∧ r = .ref 0 0 (nums s).length ∧ objs = [.arr 1 (ints (nums s))]
theorem RLettersOf_mk {s : List UInt8} (h : s.length ≤ 1048576) : RLettersOf [.str s] (.ref 0 0 (nums s).length) [.arr 1 (ints (nums s))] := ⟨s, rfl, h, rfl, rfl⟩

theorem app_step (l : List Int) (x : Int) (i : Nat) (h : i = l.length) : List.take i (ints l) ++ [[.int .i64 x]] = ints (l ++ [x]) := by
  rw [List.take_of_length_le (by simp [ints]; omega)]
  simp [ints]

theorem s_impl_lettersOf : PureSound Try.prog 78 RLettersOf := by
  have hR : Rely Try.prog (ctxOf []) := rely_nil mixed
  refine pure_of_aw b_impl_lettersOf ?_
  rintro xs r objs ⟨s, rfl, hl, rfl, rfl⟩ -
  refine ⟨by simp, vc2_sound hR _ _ _ _ _ ?_⟩
  have hbl : (s.map byteRow).length = s.length := by simp
  conv => whnf
  repeat' (first
    | contradiction
    | (refine And.intro (fun hb => ?_) (fun hb => ?_) <;> first | contradiction | skip
       all_goals (try simp only [decide_eq_true_eq, decide_eq_false_iff_not, Bool.not_eq_true', Bool.not_eq_false', Bool.not_not, ne_eq, length_ints, List.length_map, beq_iff_eq, bne_iff_ne, beq_eq_false_iff_ne, bne_eq_false_iff_eq, Int.not_le, Int.not_lt, ge_iff_le, gt_iff_lt, reduceCtorEq, not_false_eq_true, not_true_eq_false, Bool.false_eq_true, Bool.true_eq_false] at hb)
       all_goals (try (exfalso; first | contradiction | omega))
       all_goals conv => whnf)
    | (refine And.intro (live_all rfl) ?_; conv => whnf)
    | (refine And.intro rfl ?_; conv => whnf)
    | (refine ⟨_, IntWalk.i64_in _ (by omega), ?_⟩; conv => whnf)
    | (refine And.intro (okcs_all rfl) ?_; conv => whnf)
    | (refine And.intro (okvs_all rfl) ?_; conv => whnf)
    | (refine And.intro (frees_all rfl) ?_; conv => whnf)
    | (refine And.intro (bsl_all rfl) ?_; conv => whnf)
    | (refine And.intro (lens_all rfl) ?_; conv => whnf)
    | (refine And.intro (Nat.le_of_ble_eq_true rfl) ?_; conv => whnf)
    | (rw [ints_at (by omega)]; conv => whnf)
    | (rw [ints_at0 (by omega)]; conv => whnf)
    | (rw [ints_at' (by omega) (by omega)]; conv => whnf)
    | (refine And.intro (show (_ + 1) * _ ≤ _ by omega) ?_; conv => whnf)
    | (refine And.intro (show _ + 1 ≤ _ by omega) ?_; conv => whnf)
    | (refine And.intro (by first | omega | (simp only [length_ints]; omega)) ?_; conv => whnf)
    | fail)
  refine Lp.intro (α := Nat) (fun i => i ≤ s.length) (fun i => s.length - i) (fun i => [(3, .ref 0 0 i), (7, .val (s.map byteRow)), (8, .int .i64 (s.map byteRow).length), (9, .int .i64 i)]) (fun i => [some (.arr 1 (ints (nums (s.take i))))]) ?_ ?_
  · refine ⟨0, by omega, [none], rfl, rfl, ⟨rfl, trivial⟩, ?_⟩
    refine ⟨⟨rfl, rfl, rfl⟩, ?_⟩
    repeat' (first
      | exact trivial
      | refine ⟨?_, ?_⟩
      | fail)
    all_goals first
      | with_reducible rfl
      | (conv => whnf
         try left
         conv => lhs; whnf
         first
           | rfl
           | exact congrArg (AV.int .i64) (by omega)
           | skip)
  · intro i hi
    refine vc2_sound hR _ _ _ _ _ ?_
    have h8 := byte_le (s.getD i 0)
    have hn := length_nums (s.take i)
    rw [List.length_take] at hn
    have hin : (ints (nums (s.take i))).length = i := by simp [ints, length_nums]; omega
    conv => whnf
    repeat' (first
      | contradiction
      | (refine And.intro (fun hb => ?_) (fun hb => ?_) <;> first | contradiction | skip
         all_goals (try simp only [decide_eq_true_eq, decide_eq_false_iff_not, Bool.not_eq_true', Bool.not_eq_false', Bool.not_not, ne_eq, length_ints, List.length_map, beq_iff_eq, bne_iff_ne, beq_eq_false_iff_ne, bne_eq_false_iff_eq, Int.not_le, Int.not_lt, ge_iff_le, gt_iff_lt, reduceCtorEq, not_false_eq_true, not_true_eq_false, Bool.false_eq_true, Bool.true_eq_false] at hb)
         all_goals (try (exfalso; first | contradiction | omega))
         all_goals conv => whnf)
      | (refine And.intro (live_all rfl) ?_; conv => whnf)
      | (refine And.intro rfl ?_; conv => whnf)
      | (refine ⟨_, IntWalk.i64_in _ (by omega), ?_⟩; conv => whnf)
      | (refine And.intro (okcs_all rfl) ?_; conv => whnf)
      | (refine And.intro (okvs_all rfl) ?_; conv => whnf)
      | (refine And.intro (frees_all rfl) ?_; conv => whnf)
      | (refine And.intro (bsl_all rfl) ?_; conv => whnf)
      | (refine And.intro (lens_all rfl) ?_; conv => whnf)
      | (refine And.intro (Nat.le_of_ble_eq_true rfl) ?_; conv => whnf)
      | (rw [ints_at (by omega)]; conv => whnf)
      | (rw [ints_at0 (by omega)]; conv => whnf)
      | (rw [ints_at' (by omega) (by omega)]; conv => whnf)
      | (refine And.intro (show (_ + 1) * _ ≤ _ by omega) ?_; conv => whnf)
      | (refine And.intro (show _ + 1 ≤ _ by omega) ?_; conv => whnf)
      | (refine And.intro (by first | omega | (simp only [length_ints]; omega)) ?_; conv => whnf)
      | (rw [byte_at (by omega)]; conv => whnf)
      | fail)
    · refine ⟨i + 1, by omega, by omega, [some 1], rfl, rfl, And.intro (And.intro rfl ?_) trivial, ?_⟩
      · show List.take i (ints (nums (s.take i))) ++ [[.int .i64 (((s.getD i 0).toNat : Int) - 48)]] = _
        rw [app_step _ _ _ (by omega), nums_take (by omega)]
      · repeat' (first
          | exact trivial
          | refine ⟨?_, ?_⟩
          | fail)
        all_goals first
          | with_reducible rfl
          | (conv => whnf
             try left
             conv => lhs; whnf
             first
               | rfl
               | exact congrArg (AV.int .i64) (by omega)
               | skip)
    · refine ⟨.inl rfl, ?_⟩
      conv => whnf
      have hil : i = s.length := by omega
      subst hil
      rw [List.take_length]
      refine ⟨[some 0], ⟨rfl, And.intro (And.intro rfl rfl) trivial⟩, ?_, rfl, by simp [AObj.nov, ints_nov]⟩
      show AV.ref 0 0 s.length = _
      rw [length_nums]

/-- a word that is told by text: its stem, its loop, is it one -/
def wordBack (a b : List Int) (ok : Bool) : List Int × List Int × Bool := if ok && wordOk a b 8 then (a, b, true) else ([], [], false)
def readI (s : List UInt8) : List Int × List Int × Bool := wordBack (nums (cutAt s 59).1) (nums (cutAt s 59).2.1) (cutAt s 59).2.2

def readR (w : List Int × List Int × Bool) : AV := .tup [.agg [.ref 0 0 w.1.length, .ref 1 0 w.2.1.length], .bool w.2.2]
def readO (w : List Int × List Int × Bool) : List AObj := [.arr 1 (ints w.1), .arr 1 (ints w.2.1)]

def RWordReadI (xs : List AV) (r : AV) (objs : List AObj) : Prop := ∃ s, xs = [.str s] ∧ s.length ≤ 1048576 ∧ r = readR (readI s) ∧ objs = readO (readI s)
theorem RWordReadI_mk {s : List UInt8} (h : s.length ≤ 1048576) : RWordReadI [.str s] (readR (readI s)) (readO (readI s)) := ⟨s, rfl, h, rfl, rfl⟩

theorem cutAt_le {s : List UInt8} {c : UInt8} : (cutAt s c).1.length ≤ s.length ∧ (cutAt s c).2.1.length ≤ s.length := by
  unfold cutAt
  split
  · simp
  · simp; omega

theorem RRight_eq {xs : List AV} {s l : List Int} (h : xs = [word s l]) : RRight xs (.bool (wordOk s l 8)) [] := ⟨s, l, h, rfl, rfl⟩

theorem s_impl_WordRead : PureSound Try.prog 24 RWordReadI := by
  have hR : Rely Try.prog (ctxOf [(77, .pure RCut), (78, .pure RLettersOf), (65, .pure RRight)]) :=
    rely_cons b_strings_Cut.has s_Cut (rely_cons b_impl_lettersOf.has s_impl_lettersOf (rely_cons b_impl_isRight.has s_impl_isRight (rely_nil mixed)))
  refine pure_of_aw b_impl_WordRead ?_
  rintro xs r objs ⟨s, rfl, hl, rfl, rfl⟩ -
  have hc := cutAt_le (s := s) (c := 59)
  refine ⟨by simp, vc2_sound hR _ _ _ _ _ ?_⟩
  conv => whnf
  repeat' (first
    | contradiction
    | (refine And.intro (fun hb => ?_) (fun hb => ?_) <;> first | contradiction | skip
       all_goals (try simp only [decide_eq_true_eq, decide_eq_false_iff_not, Bool.not_eq_true', Bool.not_eq_false', Bool.not_not, ne_eq, length_ints, List.length_map, beq_iff_eq, bne_iff_ne, beq_eq_false_iff_ne, bne_eq_false_iff_eq, Int.not_le, Int.not_lt, ge_iff_le, gt_iff_lt, reduceCtorEq, not_false_eq_true, not_true_eq_false, Bool.false_eq_true, Bool.true_eq_false] at hb)
       all_goals (try (exfalso; first | contradiction | omega))
       all_goals conv => whnf)
    | (refine And.intro (live_all rfl) ?_; conv => whnf)
    | (refine And.intro rfl ?_; conv => whnf)
    | (refine ⟨_, IntWalk.i64_in _ (by omega), ?_⟩; conv => whnf)
    | (refine And.intro (okcs_all rfl) ?_; conv => whnf)
    | (refine And.intro (okvs_all rfl) ?_; conv => whnf)
    | (refine And.intro (frees_all rfl) ?_; conv => whnf)
    | (refine And.intro (bsl_all rfl) ?_; conv => whnf)
    | (refine And.intro (lens_all rfl) ?_; conv => whnf)
    | (refine And.intro (Nat.le_of_ble_eq_true rfl) ?_; conv => whnf)
    | (rw [ints_at (by omega)]; conv => whnf)
    | (rw [ints_at0 (by omega)]; conv => whnf)
    | (rw [ints_at' (by omega) (by omega)]; conv => whnf)
    | (refine And.intro (show (_ + 1) * _ ≤ _ by omega) ?_; conv => whnf)
    | (refine And.intro (show _ + 1 ≤ _ by omega) ?_; conv => whnf)
    | (refine And.intro (by first | omega | (simp only [length_ints]; omega)) ?_; conv => whnf)
    | (refine ⟨_, _, RCut_mk hl, ?_⟩; conv => whnf)
    | (refine ⟨_, _, RLettersOf_mk (s := (cutAt s 59).1) (by omega), ?_⟩; conv => whnf)
    | (refine ⟨_, _, RLettersOf_mk (s := (cutAt s 59).2.1) (by omega), ?_⟩; conv => whnf)
    | fail)
  · refine ⟨_, _, RRight_eq (s := nums (cutAt s 59).1) (l := nums (cutAt s 59).2.1) (by repeat' (first | exact rfl | refine args_cons ?_ ?_ | refine snap_agg ?_ | refine cells_cons ?_ ?_ | exact snap1_all rfl (by first | (simp only [length_ints]; done) | (simp only [length_nodeRows]; done) | simp [ints, marks]) | exact snap_all rfl (by first | (simp only [length_ints]; done) | (simp only [length_nodeRows]; done) | simp [ints, marks]) | exact snap1_all2 rfl (by first | (simp only [length_ints]; done) | (simp only [length_nodeRows]; done) | simp [ints, marks]) | fail)), ?_⟩
    conv => whnf
    repeat' (first
      | contradiction
      | (refine And.intro (fun hb => ?_) (fun hb => ?_) <;> first | contradiction | skip
         all_goals (try simp only [decide_eq_true_eq, decide_eq_false_iff_not, Bool.not_eq_true', Bool.not_eq_false', Bool.not_not, ne_eq, length_ints, List.length_map, beq_iff_eq, bne_iff_ne, beq_eq_false_iff_ne, bne_eq_false_iff_eq, Int.not_le, Int.not_lt, ge_iff_le, gt_iff_lt, reduceCtorEq, not_false_eq_true, not_true_eq_false, Bool.false_eq_true, Bool.true_eq_false] at hb)
         all_goals (try (exfalso; first | contradiction | omega))
         all_goals conv => whnf)
      | (refine And.intro (live_all rfl) ?_; conv => whnf)
      | (refine And.intro rfl ?_; conv => whnf)
      | (refine ⟨_, IntWalk.i64_in _ (by omega), ?_⟩; conv => whnf)
      | (refine And.intro (okcs_all rfl) ?_; conv => whnf)
      | (refine And.intro (okvs_all rfl) ?_; conv => whnf)
      | (refine And.intro (frees_all rfl) ?_; conv => whnf)
      | (refine And.intro (bsl_all rfl) ?_; conv => whnf)
      | (refine And.intro (lens_all rfl) ?_; conv => whnf)
      | (refine And.intro (Nat.le_of_ble_eq_true rfl) ?_; conv => whnf)
      | (rw [ints_at (by omega)]; conv => whnf)
      | (rw [ints_at0 (by omega)]; conv => whnf)
      | (rw [ints_at' (by omega) (by omega)]; conv => whnf)
      | (refine And.intro (show (_ + 1) * _ ≤ _ by omega) ?_; conv => whnf)
      | (refine And.intro (show _ + 1 ≤ _ by omega) ?_; conv => whnf)
      | (refine And.intro (by first | omega | (simp only [length_ints]; omega)) ?_; conv => whnf)
      | fail)
    · have e : readI s = (nums (cutAt s 59).1, nums (cutAt s 59).2.1, true) := by simp_all [readI, wordBack]
      rw [e]
      refine ⟨.inl rfl, ?_⟩
      conv => whnf
      refine And.intro (Nat.le_of_ble_eq_true rfl) ?_
      conv => whnf
      refine ⟨[some 1, some 2], ⟨rfl, And.intro (And.intro rfl rfl) (And.intro (And.intro rfl rfl) trivial)⟩, And.intro (And.intro rfl (And.intro rfl trivial)) (And.intro (.inl rfl) trivial), rfl, by simp [readO, AObj.nov, ints_nov]⟩
    · have e : readI s = ([], [], false) := by simp_all [readI, wordBack]
      rw [e]
      refine ⟨.inl rfl, ?_⟩
      conv => whnf
      refine And.intro (Nat.le_of_ble_eq_true rfl) ?_
      conv => whnf
      refine ⟨[none, none], ⟨rfl, And.intro rfl (And.intro rfl trivial)⟩, And.intro (And.intro ⟨rfl, rfl, rfl⟩ (And.intro ⟨rfl, rfl, rfl⟩ trivial)) (And.intro (.inl rfl) trivial), rfl, by simp [readO, AObj.nov, ints_nov]⟩
  · have e : readI s = ([], [], false) := by simp_all [readI, wordBack]
    rw [e]
    refine ⟨.inl rfl, ?_⟩
    conv => whnf
    refine And.intro (Nat.le_of_ble_eq_true rfl) ?_
    conv => whnf
    refine ⟨[none, none], ⟨rfl, And.intro rfl (And.intro rfl trivial)⟩, And.intro (And.intro ⟨rfl, rfl, rfl⟩ (And.intro ⟨rfl, rfl, rfl⟩ trivial)) (And.intro (.inl rfl) trivial), rfl, by simp [readO, AObj.nov, ints_nov]⟩

end Go.Proofs.Ytpfbkblgefddlaa.Ct

