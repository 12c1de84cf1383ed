/- Formulas that are right: the reference's test, the program's test. -/
import Derived.Test.YtpfbkblgefddlaaCtNode1
namespace Go.Proofs.Ytpfbkblgefddlaa.Ct
set_option linter.unusedSimpArgs false
set_option linter.unusedVariables false
open Go Go.Proofs Go.Proofs.Ytpfbkblgefddlaa.Av

def c_spec_LtlOk : ICode := (.seq (.reg [⟨(some 2), .mv, [(.c (.bool false))], none⟩]) (.seq (.seq (.reg [⟨(some 7), .mv, [(.t 0)], none⟩, ⟨(some 8), .len, [(.t 7)], none⟩, ⟨(some 9), (.call 69), [(.t 8), (.c (.int .i64 1)), (.c (.int .i64 31))], none⟩, ⟨(some 10), .not, [(.t 9)], none⟩]) (.cond (.t 10) (.seq (.reg [⟨(some 2), .mv, [(.c (.bool false))], none⟩]) .ret) .skip)) (.seq (.reg [⟨(some 11), .bsle, [], none⟩, ⟨(some 3), .mv, [(.t 11)], none⟩]) (.seq (.seq (.reg [⟨(some 4), .mv, [(.c (.int .i64 0))], none⟩]) (.block 0 (.loop (.seq (.seq (.reg [⟨(some 12), .mv, [(.t 4)], none⟩, ⟨(some 13), .mv, [(.t 0)], none⟩, ⟨(some 14), .len, [(.t 13)], none⟩, ⟨(some 15), (.bin .lss), [(.t 12), (.t 14)], none⟩]) (.cond (.t 15) .skip (.exit 0))) (.seq (.block 1 (.seq (.reg [⟨(some 18), .mv, [(.t 0)], none⟩, ⟨(some 19), .mv, [(.t 4)], none⟩, ⟨(some 20), (.iadr 3), [(.t 18), (.t 19)], none⟩, ⟨(some 21), (.fadr 0), [(.t 20)], none⟩, ⟨(some 22), .ld1, [(.t 21)], none⟩, ⟨(some 23), (.call 98), [(.t 22)], none⟩, ⟨(some 5), .mv, [(.t 23)], none⟩]) (.seq (.seq (.reg [⟨(some 24), .mv, [(.t 5)], none⟩, ⟨(some 25), (.bin .lss), [(.t 24), (.c (.int .i64 0))], none⟩, ⟨(some 26), .mv, [(.t 25)], none⟩, ⟨(some 27), .mv, [(.t 5)], (some (26, false))⟩, ⟨(some 28), (.bin .eql), [(.t 27), (.c (.int .i64 0))], (some (26, false))⟩, ⟨(some 29), .mv, [(.t 28)], (some (26, false))⟩, ⟨(some 30), .mv, [(.t 0)], (some (29, true))⟩, ⟨(some 31), .mv, [(.t 4)], (some (29, true))⟩, ⟨(some 32), (.iadr 3), [(.t 30), (.t 31)], (some (29, true))⟩, ⟨(some 33), (.ldn 3), [(.t 32)], (some (29, true))⟩, ⟨(some 34), (.call 99), [(.t 33)], (some (29, true))⟩, ⟨(some 35), .not, [(.t 34)], (some (29, true))⟩, ⟨(some 36), .pick, [(.t 29), (.t 35), (.c (.bool false))], (some (26, false))⟩, ⟨(some 37), .pick, [(.t 26), (.c (.bool true)), (.t 36)], none⟩]) (.cond (.t 37) (.seq (.reg [⟨(some 2), .mv, [(.c (.bool false))], none⟩]) .ret) .skip)) (.reg [⟨(some 38), .mv, [(.t 3)], none⟩, ⟨(some 39), .mv, [(.t 5)], none⟩, ⟨(some 40), (.bslv 1), [(.t 39)], none⟩, ⟨(some 41), (.app 1 8), [(.t 38), (.t 40)], none⟩, ⟨(some 3), .mv, [(.t 41)], none⟩])))) (.reg [⟨(some 16), .mv, [(.t 4)], none⟩, ⟨(some 17), (.bin .add), [(.t 16), (.c (.int .i64 1))], none⟩, ⟨(some 4), .mv, [(.t 17)], none⟩])))))) (.seq (.reg [⟨(some 42), .mv, [(.t 0)], none⟩, ⟨(some 43), .mv, [(.t 3)], none⟩, ⟨(some 44), (.call 100), [(.t 42), (.t 43)], none⟩, ⟨(some 6), .mv, [(.t 44)], none⟩]) (.seq (.reg [⟨(some 45), .mv, [(.t 6)], none⟩, ⟨(some 46), .len, [(.t 45)], none⟩, ⟨(some 47), .mv, [(.t 0)], none⟩, ⟨(some 48), .len, [(.t 47)], none⟩, ⟨(some 49), (.bin .eql), [(.t 46), (.t 48)], none⟩, ⟨(some 50), .mv, [(.t 49)], none⟩, ⟨(some 51), .mv, [(.t 6)], (some (50, true))⟩, ⟨(some 52), .mv, [(.t 0)], (some (50, true))⟩, ⟨(some 53), .len, [(.t 52)], (some (50, true))⟩, ⟨(some 54), (.bin .sub), [(.t 53), (.c (.int .i64 1))], (some (50, true))⟩, ⟨(some 55), (.iadr 1), [(.t 51), (.t 54)], (some (50, true))⟩, ⟨(some 56), .ld1, [(.t 55)], (some (50, true))⟩, ⟨(some 57), .mv, [(.t 0)], (some (50, true))⟩, ⟨(some 58), .len, [(.t 57)], (some (50, true))⟩, ⟨(some 59), (.bin .eql), [(.t 56), (.t 58)], (some (50, true))⟩, ⟨(some 60), .pick, [(.t 50), (.t 59), (.c (.bool false))], none⟩, ⟨(some 2), .mv, [(.t 60)], none⟩]) .ret))))))
theorem b_spec_LtlOk : Body Try.prog 40 61 c_spec_LtlOk [(.t 2)] := by
  have h1 : comp Try.prog 61 (Try.f40.body.getD .skip) = some c_spec_LtlOk := by kernel_rfl
  have h2 : Try.f40.body = some (Try.f40.body.getD .skip) := by kernel_rfl
  have h3 : Try.f40.results.toList.map (cRes Try.prog) = [(some (.t 2))] := by kernel_rfl
  exact ⟨_, _, Try.func40, h2, Try.ntmps40, h1, h3, by decide⟩


/-- a list of nodes is a tree of a formula -/
def nodeS (n : NodeD) : Bool := !(decide (partsS n.kind < 0)) && !(decide (partsS n.kind = 0) && !(leafS n))
def psS (l : List NodeD) : List Int := l.map fun n => partsS n.kind
def ltlOk (l : List NodeD) : Bool := decide (1 ≤ l.length ∧ l.length ≤ 31) && l.all nodeS && (match sizes l (psS l) l.length with
  | some out => decide (out.getD (l.length - 1) 0 = l.length)
  | none => false)

def RLtlOk (xs : List AV) (r : AV) (objs : List AObj) : Prop := ∃ l, xs = [.val (nodeRows l)] ∧ r = .bool (ltlOk l) ∧ objs = []
theorem RLtlOk_mk {l : List NodeD} : RLtlOk [.val (nodeRows l)] (.bool (ltlOk l)) [] := ⟨l, rfl, rfl, rfl⟩

theorem RSizes_eq {xs : List AV} {l : List NodeD} {ps : List Int} (h : xs = [.val (nodeRows l), .val (ints ps)]) (h1 : ps.length = l.length) (h2 : l.length ≤ 31) : RSizes xs (.ref 0 0 (sizesL l ps).length) [.arr 1 (ints (sizesL l ps))] := ⟨l, ps, h, h1, h2, rfl, rfl⟩

theorem psS_take {l : List NodeD} {i : Nat} (h : i < l.length) : psS (l.take (i + 1)) = psS (l.take i) ++ [partsS (l.getD i default).kind] := by
  rw [take_succ_D h]
  simp [psS]

theorem sizesL_spec {l : List NodeD} {ps : List Int} (hl : 1 ≤ l.length) : ((sizesL l ps).length = l.length ↔ ∃ out, sizes l ps l.length = some out) := by
  unfold sizesL
  cases h : sizes l ps l.length with
  | none => simp; omega
  | some out => simp [(sizes_bound _ _ h).1]

theorem nodeS_true {n : NodeD} (h1 : 0 ≤ partsS n.kind) (h2 : partsS n.kind = 0 → leafS n = true) : nodeS n = true := by
  unfold nodeS
  by_cases h : partsS n.kind = 0
  · simp [h, h2 h]
  · simp [h]; omega
theorem nodeS_neg {n : NodeD} (h : partsS n.kind < 0) : nodeS n = false := by simp [nodeS, h]
theorem nodeS_leaf {n : NodeD} (h : partsS n.kind = 0) (h2 : leafS n = false) : nodeS n = false := by simp [nodeS, h, h2]

theorem ltlOk_not {l : List NodeD} {i : Nat} (hi : i < l.length) (h : nodeS (l.getD i default) = false) : ltlOk l = false := by
  have : l.all nodeS = false := by
    rw [Bool.eq_false_iff]
    intro ha
    rw [List.all_eq_true] at ha
    have := ha (l.getD i default) (by rw [List.getD_eq_getElem?_getD, List.getElem?_eq_getElem hi]; exact List.getElem_mem hi)
    rw [h] at this
    cases this
  simp [ltlOk, this]

theorem ltlOk_end {l : List NodeD} (h1 : 1 ≤ l.length ∧ l.length ≤ 31) (h2 : ∀ j, j < l.length → nodeS (l.getD j default) = true) :
    ltlOk l = decide ((sizesL l (psS l)).length = l.length ∧ (sizesL l (psS l)).getD (l.length - 1) 0 = l.length) := by
  have ha : l.all nodeS = true := by
    rw [List.all_eq_true]
    intro x hx
    obtain ⟨j, hj, rfl⟩ := List.getElem_of_mem hx
    have := h2 j hj
    rwa [List.getD_eq_getElem?_getD, List.getElem?_eq_getElem hj] at this
  unfold ltlOk sizesL
  rw [ha]
  cases hs : sizes l (psS l) l.length with
  | none => simp [h1]; omega
  | some out =>
    have := (sizes_bound _ _ hs).1
    simp [h1, this]

theorem ltlOk_end2 {l : List NodeD} (h1 : 1 ≤ l.length ∧ l.length ≤ 31) (h2 : ∀ j, j < l.length → nodeS (l.getD j default) = true) :
    ltlOk l = decide ((sizesL l (psS l)).length = l.length ∧ (sizesL l (psS l)).getD (((nodeRows l).length : Int) - 1).toNat 0 = l.length) := by
  have := length_nodeRows l
  have e : (((nodeRows l).length : Int) - 1).toNat = l.length - 1 := by omega
  rw [e]
  exact ltlOk_end h1 h2

set_option maxHeartbeats 2000000 in
theorem s_spec_LtlOk : PureSound Try.prog 40 RLtlOk := by
  have hR : Rely Try.prog (ctxOf [(69, .pure RIn), (98, .pure RPartsS), (99, .pure RLeafS), (100, .pure RSizes)]) :=
    rely_cons b_spec_l1In.has s_spec_l1In (rely_cons b_spec_l8Parts.has s_spec_l8Parts (rely_cons b_spec_l2Leaf.has s_spec_l2Leaf (rely_cons b_spec_l2Sizes.has s_spec_l2Sizes (rely_nil mixed))))
  refine pure_of_aw b_spec_LtlOk ?_
  rintro xs r objs ⟨l, rfl, rfl, rfl⟩ -
  have hln := length_nodeRows l
  refine ⟨by simp, vc2_sound hR _ _ _ _ _ ?_⟩
  conv => whnf
  repeat' (first
    | (refine And.intro (fun hb => ?_) (fun hb => ?_)
       all_goals (try simp only [decide_eq_true_eq, decide_eq_false_iff_not, Bool.not_eq_true', Bool.not_eq_false', Bool.not_not, ne_eq, length_ints, List.length_map, beq_iff_eq, bne_iff_ne, beq_eq_false_iff_ne, bne_eq_false_iff_eq, Int.not_le, Int.not_lt, ge_iff_le, gt_iff_lt, reduceCtorEq, not_false_eq_true, not_true_eq_false, Bool.false_eq_true, Bool.true_eq_false] at hb)
       all_goals (try (exfalso; omega))
       all_goals conv => whnf)
    | (refine And.intro (live_all rfl) ?_; conv => whnf)
    | (refine And.intro rfl ?_; conv => whnf)
    | (refine ⟨_, IntWalk.i64_in _ (by omega), ?_⟩; conv => whnf)
    | (refine And.intro (okcs_all rfl) ?_; conv => whnf)
    | (refine And.intro (okvs_all rfl) ?_; conv => whnf)
    | (refine And.intro (frees_all rfl) ?_; conv => whnf)
    | (refine And.intro (bsl_all rfl) ?_; conv => whnf)
    | (refine And.intro (lens_all rfl) ?_; conv => whnf)
    | (refine And.intro (Nat.le_of_ble_eq_true rfl) ?_; conv => whnf)
    | (rw [ints_at (by omega)]; conv => whnf)
    | (rw [ints_at0 (by omega)]; conv => whnf)
    | (rw [ints_at' (by omega) (by omega)]; conv => whnf)
    | (refine And.intro (show (_ + 1) * _ ≤ _ by omega) ?_; conv => whnf)
    | (refine And.intro (show _ + 1 ≤ _ by omega) ?_; conv => whnf)
    | (refine And.intro (by first | omega | (simp only [length_ints]; omega)) ?_; conv => whnf)
    | (refine ⟨_, _, RIn_mk, ?_⟩; conv => whnf)
    | fail)
  rotate_left
  · refine ⟨.inl rfl, ?_⟩
    conv => whnf
    refine ⟨[], ⟨rfl, trivial⟩, ?_, rfl, rfl⟩
    conv => whnf
    left
    conv => lhs; whnf
    refine congrArg AV.bool ?_
    have : ¬ (1 ≤ l.length ∧ l.length ≤ 31) := by omega
    simp [ltlOk, this]
  have hlen : 1 ≤ l.length ∧ l.length ≤ 31 := by omega
  refine Lp.intro (α := Nat) (fun i => i ≤ l.length ∧ ∀ j, j < i → nodeS (l.getD j default) = true) (fun i => l.length - i) (fun i => [(0, .val (nodeRows l)), (3, .ref 0 0 (psS (l.take i)).length), (4, .int .i64 i)]) (fun i => [some (.arr 1 (ints (psS (l.take i))))]) ?_ ?_
  · refine ⟨0, ⟨by omega, by omega⟩, [none], rfl, rfl, And.intro rfl trivial, ?_⟩
    repeat' (first
      | exact trivial
      | refine ⟨?_, ?_⟩
      | fail)
    all_goals first
      | with_reducible rfl
      | (conv => whnf
         try left
         conv => lhs; whnf
         first
           | rfl
           | exact congrArg (AV.int .i64) (by omega)
           | skip)
  · rintro i ⟨hi, hall⟩
    have hpl : (psS (l.take i)).length = i := by simp [psS]; omega
    have hpi := length_ints (psS (l.take i))
    refine vc2_sound hR _ _ _ _ _ ?_
    conv => whnf
    repeat' (first
      | (refine And.intro (fun hb => ?_) (fun hb => ?_)
         all_goals (try simp only [decide_eq_true_eq, decide_eq_false_iff_not, Bool.not_eq_true', Bool.not_eq_false', Bool.not_not, ne_eq, length_ints, List.length_map, beq_iff_eq, bne_iff_ne, beq_eq_false_iff_ne, bne_eq_false_iff_eq, Int.not_le, Int.not_lt, ge_iff_le, gt_iff_lt, reduceCtorEq, not_false_eq_true, not_true_eq_false, Bool.false_eq_true, Bool.true_eq_false] at hb)
         all_goals (try (exfalso; omega))
         all_goals conv => whnf)
      | (refine And.intro (live_all rfl) ?_; conv => whnf)
      | (refine And.intro rfl ?_; conv => whnf)
      | (refine ⟨_, IntWalk.i64_in _ (by omega), ?_⟩; conv => whnf)
      | (refine And.intro (okcs_all rfl) ?_; conv => whnf)
      | (refine And.intro (okvs_all rfl) ?_; conv => whnf)
      | (refine And.intro (frees_all rfl) ?_; conv => whnf)
      | (refine And.intro (bsl_all rfl) ?_; conv => whnf)
      | (refine And.intro (lens_all rfl) ?_; conv => whnf)
      | (refine And.intro (Nat.le_of_ble_eq_true rfl) ?_; conv => whnf)
      | (rw [ints_at (by omega)]; conv => whnf)
      | (rw [ints_at0 (by omega)]; conv => whnf)
      | (rw [ints_at' (by omega) (by omega)]; conv => whnf)
      | (refine And.intro (show (_ + 1) * _ ≤ _ by omega) ?_; conv => whnf)
      | (refine And.intro (show _ + 1 ≤ _ by omega) ?_; conv => whnf)
      | (refine And.intro (by first | omega | (simp only [length_ints]; omega)) ?_; conv => whnf)
      | (rw [node_at (by omega)]; conv => whnf)
      | (refine ⟨_, _, RPartsS_mk, ?_⟩; conv => whnf)
      | (refine ⟨_, _, RLeafS_mk (n := l.getD i default), ?_⟩; conv => whnf)
      | fail)
    · refine ⟨.inl rfl, ?_⟩
      conv => whnf
      refine ⟨[], ⟨rfl, trivial⟩, ?_, rfl, rfl⟩
      conv => whnf
      left
      conv => lhs; whnf
      exact congrArg AV.bool (ltlOk_not (i := i) (by omega) (nodeS_neg (by assumption))).symm
    · refine ⟨i + 1, ⟨by omega, fun j hj => ?_⟩, by omega, [some 1], rfl, rfl, And.intro (And.intro rfl ?_) trivial, ?_⟩
      · by_cases hji : j = i
        · subst hji; exact nodeS_true (by assumption) (fun _ => by assumption)
        · exact hall j (by omega)
      · rw [psS_take (by omega)]
        exact app_int _ _ _ rfl
      · repeat' (first
          | exact trivial
          | refine ⟨?_, ?_⟩
          | fail)
        all_goals first
          | with_reducible rfl
          | (conv => whnf
             try left
             conv => lhs; whnf
             first
               | rfl
               | exact congrArg (AV.int .i64) (by omega)
               | skip)
        rw [psS_take (by omega)]
        simp
    · refine ⟨.inl rfl, ?_⟩
      conv => whnf
      refine ⟨[], ⟨rfl, trivial⟩, ?_, rfl, rfl⟩
      conv => whnf
      left
      conv => lhs; whnf
      exact congrArg AV.bool (ltlOk_not (i := i) (by omega) (nodeS_leaf (by assumption) (by assumption))).symm
    · refine ⟨i + 1, ⟨by omega, fun j hj => ?_⟩, by omega, [some 1], rfl, rfl, And.intro (And.intro rfl ?_) trivial, ?_⟩
      · by_cases hji : j = i
        · subst hji; exact nodeS_true (by assumption) (fun h => absurd h (by assumption))
        · exact hall j (by omega)
      · rw [psS_take (by omega)]
        exact app_int _ _ _ rfl
      · repeat' (first
          | exact trivial
          | refine ⟨?_, ?_⟩
          | fail)
        all_goals first
          | with_reducible rfl
          | (conv => whnf
             try left
             conv => lhs; whnf
             first
               | rfl
               | exact congrArg (AV.int .i64) (by omega)
               | skip)
        rw [psS_take (by omega)]
        simp
    · have hil : i = l.length := by omega
      subst hil
      rw [List.take_length] at *
      refine ⟨_, _, RSizes_eq (l := l) (ps := psS l) (by repeat' (first | exact rfl | refine args_cons ?_ ?_ | refine snap_agg ?_ | refine cells_cons ?_ ?_ | exact snap1_all rfl (by first | (simp only [length_ints]; done) | (simp only [length_nodeRows]; done) | simp [ints, marks]) | exact snap_all rfl (by first | (simp only [length_ints]; done) | (simp only [length_nodeRows]; done) | simp [ints, marks]) | exact snap1_all2 rfl (by first | (simp only [length_ints]; done) | (simp only [length_nodeRows]; done) | simp [ints, marks]) | fail)) (by simp [psS]) hlen.2, ?_⟩
      have hsz := length_ints (sizesL l (psS l))
      conv => whnf
      repeat' (first
        | (refine And.intro (fun hb => ?_) (fun hb => ?_)
           all_goals (try simp only [decide_eq_true_eq, decide_eq_false_iff_not, Bool.not_eq_true', Bool.not_eq_false', Bool.not_not, ne_eq, length_ints, List.length_map, beq_iff_eq, bne_iff_ne, beq_eq_false_iff_ne, bne_eq_false_iff_eq, Int.not_le, Int.not_lt, ge_iff_le, gt_iff_lt, reduceCtorEq, not_false_eq_true, not_true_eq_false, Bool.false_eq_true, Bool.true_eq_false] at hb)
           all_goals (try (exfalso; omega))
           all_goals conv => whnf)
        | (refine And.intro (live_all rfl) ?_; conv => whnf)
        | (refine And.intro rfl ?_; conv => whnf)
        | (refine ⟨_, IntWalk.i64_in _ (by omega), ?_⟩; conv => whnf)
        | (refine And.intro (okcs_all rfl) ?_; conv => whnf)
        | (refine And.intro (okvs_all rfl) ?_; conv => whnf)
        | (refine And.intro (frees_all rfl) ?_; conv => whnf)
        | (refine And.intro (bsl_all rfl) ?_; conv => whnf)
        | (refine And.intro (lens_all rfl) ?_; conv => whnf)
        | (refine And.intro (Nat.le_of_ble_eq_true rfl) ?_; conv => whnf)
        | (rw [ints_at (by omega)]; conv => whnf)
        | (rw [ints_at0 (by omega)]; conv => whnf)
        | (rw [ints_at' (by omega) (by omega)]; conv => whnf)
        | (refine And.intro (show (_ + 1) * _ ≤ _ by omega) ?_; conv => whnf)
        | (refine And.intro (show _ + 1 ≤ _ by omega) ?_; conv => whnf)
        | (refine And.intro (by first | omega | (simp only [length_ints]; omega)) ?_; conv => whnf)
        | (rw [ints_atJ (by omega) (by omega)]; conv => whnf)
        | fail)
      all_goals
        refine ⟨.inl rfl, ?_⟩
        conv => whnf
        refine ⟨[], ⟨rfl, trivial⟩, ?_, rfl, rfl⟩
        conv => whnf
        left
        conv => lhs; whnf
        refine congrArg AV.bool ?_
        rw [ltlOk_end2 hlen hall]
        first
        | exact (decide_eq_true (by constructor <;> omega)).symm
        | exact (decide_eq_false (by omega)).symm

end Go.Proofs.Ytpfbkblgefddlaa.Ct

