/- Draws of formulas: what is handed on. -/
import Derived.Test.YtpfbkblgefddlaaCtDraw5
import Derived.Test.YtpfbkblgefddlaaCtParse9
import Derived.Test.YtpfbkblgefddlaaCtPrint3
namespace Go.Proofs.Ytpfbkblgefddlaa.Ct
set_option linter.unusedSimpArgs false
set_option linter.unusedVariables false
open Go Go.Proofs Go.Proofs.Ytpfbkblgefddlaa.Av

def GRight : GFun := fun xs objs Q => ∃ (code : List UInt8) (i : Nat) (h most : Int), xs = [.ptr 0 0 0, .int .i64 most] ∧ objs = [curO code i h] ∧ i ≤ code.length ∧ code.length ≤ 1048576 ∧ 0 ≤ most ∧ most ≤ 50 ∧
  ∀ (t : Tr) (i' : Nat) (h' : Int), t.ok → t.size ≤ 31 → i' ≤ code.length → Q (.ref 1 0 (t.enc 0).length) [some (curO code i' h'), some (.arr 3 (nodeRows (t.enc 0)))]
theorem GRight_mk {code : List UInt8} {i : Nat} {h most : Int} {Q : AV → List (Option AObj) → Prop} (h1 : i ≤ code.length) (h2 : code.length ≤ 1048576) (h3 : 0 ≤ most ∧ most ≤ 50)
    (hq : ∀ (t : Tr) (i' : Nat) (h' : Int), t.ok → t.size ≤ 31 → i' ≤ code.length → Q (.ref 1 0 (t.enc 0).length) [some (curO code i' h'), some (.arr 3 (nodeRows (t.enc 0)))]) : GRight [.ptr 0 0 0, .int .i64 most] [curO code i h] Q :=
  ⟨code, i, h, most, rfl, rfl, h1, h2, h3.1, h3.2, hq⟩

theorem pow_16 {n : Nat} (h : n ≤ 4) : 2 ^ n ≤ 16 := by
  have := Nat.pow_le_pow_right (n := 2) (by omega) h
  omega

set_option maxHeartbeats 4000000 in
theorem s_spec_l8DrawRight : GenSound Try.prog 104 1 GRight := by
  have hR : Rely Try.prog (ctxOf [(87, .gen 1 GBelow), (151, .gen 2 (GTree 4))]) := rely_cons b_spec_l1Below.has s_spec_l1Below (rely_cons b_spec_l8DrawTree.has (s_spec_l8DrawTree 4) (rely_nil mixed))
  refine gen_of_aw b_spec_l8DrawRight ?_
  rintro xs objs Q - ⟨code, i, h, most, rfl, rfl, h1, h2, h3, h3', hq⟩ -
  refine ⟨by simp, ?_⟩
  refine Aw.meet (α := Unit) (fun _ => True) (fun _ => [(0, .ptr 0 0 0), (1, .int .i64 most)]) (fun _ => [some (curO code i h)]) ?_ ?_
  · refine vc2_sound hR _ _ _ _ _ ?_
    conv => whnf
    repeat' (first
      | (refine And.intro (fun hb => ?_) (fun hb => ?_)
         all_goals (try simp only [decide_eq_true_eq, decide_eq_false_iff_not, Bool.not_eq_true', Bool.not_eq_false', Bool.not_not, ne_eq, length_ints, List.length_map, beq_iff_eq, bne_iff_ne, beq_eq_false_iff_ne, bne_eq_false_iff_eq, Int.not_le, Int.not_lt, ge_iff_le, gt_iff_lt, reduceCtorEq, not_false_eq_true, not_true_eq_false, Bool.false_eq_true, Bool.true_eq_false] at hb)
         all_goals (try (exfalso; omega))
         all_goals conv => whnf)
      | (refine And.intro (live_all rfl) ?_; conv => whnf)
      | (refine And.intro rfl ?_; conv => whnf)
      | (refine ⟨_, IntWalk.i64_in _ (by omega), ?_⟩; conv => whnf)
      | (refine And.intro (okcs_all rfl) ?_; conv => whnf)
      | (refine And.intro (okvs_all rfl) ?_; conv => whnf)
      | (refine And.intro (frees_all rfl) ?_; conv => whnf)
      | (refine And.intro (bsl_all rfl) ?_; conv => whnf)
      | (refine And.intro (lens_all rfl) ?_; conv => whnf)
      | (refine And.intro (Nat.le_of_ble_eq_true rfl) ?_; conv => whnf)
      | (rw [ints_at (by omega)]; conv => whnf)
      | (rw [ints_at0 (by omega)]; conv => whnf)
      | (rw [ints_at' (by omega) (by omega)]; conv => whnf)
      | (refine And.intro (show (_ + 1) * _ ≤ _ by omega) ?_; conv => whnf)
      | (refine And.intro (show _ + 1 ≤ _ by omega) ?_; conv => whnf)
      | (refine And.intro (by first | omega | (simp only [length_ints]; omega)) ?_; conv => whnf)
      | fail)
    refine ⟨(), trivial, [some 0], rfl, rfl, And.intro (And.intro (.inl rfl) (And.intro (.inl rfl) (And.intro (.inl rfl) trivial))) trivial, ?_⟩
    repeat' (first
      | exact trivial
      | refine ⟨?_, ?_⟩
      | fail)
    all_goals first
      | with_reducible rfl
      | (conv => whnf
         try left
         conv => lhs; whnf
         first
           | rfl
           | exact congrArg (AV.int .i64) (by omega)
           | skip)
  rintro _ -
  refine Aw.meet (α := Tr × Nat × Int) (fun a => a.1.ok ∧ a.1.size ≤ 31 ∧ a.2.1 ≤ code.length) (fun a => [(4, .ref 1 0 (a.1.enc 0).length)]) (fun a => [some (curO code a.2.1 a.2.2), some (.arr 3 (nodeRows (a.1.enc 0)))]) ?_ ?_
  · refine splitAt hR 5 ?_
    conv => whnf
    repeat' (first
      | (refine And.intro (fun hb => ?_) (fun hb => ?_)
         all_goals (try simp only [decide_eq_true_eq, decide_eq_false_iff_not, Bool.not_eq_true', Bool.not_eq_false', Bool.not_not, ne_eq, length_ints, List.length_map, beq_iff_eq, bne_iff_ne, beq_eq_false_iff_ne, bne_eq_false_iff_eq, Int.not_le, Int.not_lt, ge_iff_le, gt_iff_lt, reduceCtorEq, not_false_eq_true, not_true_eq_false, Bool.false_eq_true, Bool.true_eq_false] at hb)
         all_goals (try (exfalso; omega))
         all_goals conv => whnf)
      | (refine And.intro (live_all rfl) ?_; conv => whnf)
      | (refine And.intro rfl ?_; conv => whnf)
      | (refine ⟨_, IntWalk.i64_in _ (by omega), ?_⟩; conv => whnf)
      | (refine And.intro (okcs_all rfl) ?_; conv => whnf)
      | (refine And.intro (okvs_all rfl) ?_; conv => whnf)
      | (refine And.intro (frees_all rfl) ?_; conv => whnf)
      | (refine And.intro (bsl_all rfl) ?_; conv => whnf)
      | (refine And.intro (lens_all rfl) ?_; conv => whnf)
      | (refine And.intro (Nat.le_of_ble_eq_true rfl) ?_; conv => whnf)
      | (rw [ints_at (by omega)]; conv => whnf)
      | (rw [ints_at0 (by omega)]; conv => whnf)
      | (rw [ints_at' (by omega) (by omega)]; conv => whnf)
      | (refine And.intro (show (_ + 1) * _ ≤ _ by omega) ?_; conv => whnf)
      | (refine And.intro (show _ + 1 ≤ _ by omega) ?_; conv => whnf)
      | (refine And.intro (by first | omega | (simp only [length_ints]; omega)) ?_; conv => whnf)
      | (refine ⟨GBelow_mk (by omega) (by omega) (by omega) (fun x i' h' hx0 hx1 hi' => ?_)⟩; conv => whnf)
      | fail)
    refine ⟨[some 0, none], [(1, .int .i64 most), (5, .ptr 0 0 0), (8, .int .i64 (1 + x)), (9, .ref 1 0 0)], [some (curO code i' h'), some (.arr 3 [])], ⟨rfl, rfl, And.intro (And.intro (.inl rfl) (And.intro (.inl rfl) (And.intro (.inl rfl) trivial))) (And.intro rfl trivial), ?_⟩, ?_⟩
    · repeat' (first
        | exact trivial
        | refine ⟨?_, ?_⟩
        | fail)
      all_goals first
        | with_reducible rfl
        | (conv => whnf
           try left
           conv => lhs; whnf
           first
             | rfl
             | exact congrArg (AV.int .i64) (by omega)
             | skip)
    have hp := pow_16 (n := (1 + x).toNat) (by omega)
    conv => whnf
    repeat' (first
      | (refine And.intro (fun hb => ?_) (fun hb => ?_)
         all_goals (try simp only [decide_eq_true_eq, decide_eq_false_iff_not, Bool.not_eq_true', Bool.not_eq_false', Bool.not_not, ne_eq, length_ints, List.length_map, beq_iff_eq, bne_iff_ne, beq_eq_false_iff_ne, bne_eq_false_iff_eq, Int.not_le, Int.not_lt, ge_iff_le, gt_iff_lt, reduceCtorEq, not_false_eq_true, not_true_eq_false, Bool.false_eq_true, Bool.true_eq_false] at hb)
         all_goals (try (exfalso; omega))
         all_goals conv => whnf)
      | (refine And.intro (live_all rfl) ?_; conv => whnf)
      | (refine And.intro rfl ?_; conv => whnf)
      | (refine ⟨_, IntWalk.i64_in _ (by omega), ?_⟩; conv => whnf)
      | (refine And.intro (okcs_all rfl) ?_; conv => whnf)
      | (refine And.intro (okvs_all rfl) ?_; conv => whnf)
      | (refine And.intro (frees_all rfl) ?_; conv => whnf)
      | (refine And.intro (bsl_all rfl) ?_; conv => whnf)
      | (refine And.intro (lens_all rfl) ?_; conv => whnf)
      | (refine And.intro (Nat.le_of_ble_eq_true rfl) ?_; conv => whnf)
      | (rw [ints_at (by omega)]; conv => whnf)
      | (rw [ints_at0 (by omega)]; conv => whnf)
      | (rw [ints_at' (by omega) (by omega)]; conv => whnf)
      | (refine And.intro (show (_ + 1) * _ ≤ _ by omega) ?_; conv => whnf)
      | (refine And.intro (show _ + 1 ≤ _ by omega) ?_; conv => whnf)
      | (refine And.intro (by first | omega | (simp only [length_ints]; omega)) ?_; conv => whnf)
      | (refine ⟨GTree_mk (l := []) (deep := 1 + x) (by omega) (by omega) (by omega) (by simp; omega) (by omega) (fun t i' h' ht1 ht2 hi' => ?_)⟩; conv => whnf)
      | fail)
    refine ⟨(t, i', h'), ⟨ht1, by dsimp only; omega, hi'⟩, [some 0, some 2], rfl, rfl, And.intro (And.intro (.inl rfl) (And.intro (.inl rfl) (And.intro (.inl rfl) trivial))) (And.intro (And.intro rfl rfl) trivial), ?_⟩
    repeat' (first
      | exact trivial
      | refine ⟨?_, ?_⟩
      | fail)
    all_goals first
      | with_reducible rfl
      | (conv => whnf
         try left
         conv => lhs; whnf
         first
           | rfl
           | exact congrArg (AV.int .i64) (by omega)
           | skip)
  rintro ⟨t, i', h'⟩ ⟨ht1, ht2, hi'⟩
  dsimp only at ht1 ht2 hi' ⊢
  refine vc2_sound hR _ _ _ _ _ ?_
  conv => whnf
  repeat' (first
    | (refine And.intro (fun hb => ?_) (fun hb => ?_)
       all_goals (try simp only [decide_eq_true_eq, decide_eq_false_iff_not, Bool.not_eq_true', Bool.not_eq_false', Bool.not_not, ne_eq, length_ints, List.length_map, beq_iff_eq, bne_iff_ne, beq_eq_false_iff_ne, bne_eq_false_iff_eq, Int.not_le, Int.not_lt, ge_iff_le, gt_iff_lt, reduceCtorEq, not_false_eq_true, not_true_eq_false, Bool.false_eq_true, Bool.true_eq_false] at hb)
       all_goals (try (exfalso; omega))
       all_goals conv => whnf)
    | (refine And.intro (live_all rfl) ?_; conv => whnf)
    | (refine And.intro rfl ?_; conv => whnf)
    | (refine ⟨_, IntWalk.i64_in _ (by omega), ?_⟩; conv => whnf)
    | (refine And.intro (okcs_all rfl) ?_; conv => whnf)
    | (refine And.intro (okvs_all rfl) ?_; conv => whnf)
    | (refine And.intro (frees_all rfl) ?_; conv => whnf)
    | (refine And.intro (bsl_all rfl) ?_; conv => whnf)
    | (refine And.intro (lens_all rfl) ?_; conv => whnf)
    | (refine And.intro (Nat.le_of_ble_eq_true rfl) ?_; conv => whnf)
    | (rw [ints_at (by omega)]; conv => whnf)
    | (rw [ints_at0 (by omega)]; conv => whnf)
    | (rw [ints_at' (by omega) (by omega)]; conv => whnf)
    | (refine And.intro (show (_ + 1) * _ ≤ _ by omega) ?_; conv => whnf)
    | (refine And.intro (show _ + 1 ≤ _ by omega) ?_; conv => whnf)
    | (refine And.intro (by first | omega | (simp only [length_ints]; omega)) ?_; conv => whnf)
    | fail)
  refine ⟨.inl rfl, ?_⟩
  conv => whnf
  exact ⟨[some 0, some 1], .ref 1 0 _, [some (curO code i' h'), some (.arr 3 (nodeRows (t.enc 0)))], ⟨rfl, And.intro (And.intro (.inl rfl) (And.intro (.inl rfl) (And.intro (.inl rfl) trivial))) (And.intro (And.intro rfl rfl) trivial)⟩, rfl, rfl, hq t i' h' ht1 ht2 hi'⟩

/-- any list of nodes -/
def GAny : GFun := fun xs objs Q => ∃ (code : List UInt8) (i : Nat) (h : Int), xs = [.ptr 0 0 0] ∧ objs = [curO code i h] ∧ i ≤ code.length ∧ code.length ≤ 1048576 ∧
  ∀ (l : List NodeD) (i' : Nat) (h' : Int), l.length ≤ 32 → i' ≤ code.length → Q (.ref 1 0 l.length) [some (curO code i' h'), some (.arr 3 (nodeRows l))]
theorem GAny_mk {code : List UInt8} {i : Nat} {h : Int} {Q : AV → List (Option AObj) → Prop} (h1 : i ≤ code.length) (h2 : code.length ≤ 1048576)
    (hq : ∀ (l : List NodeD) (i' : Nat) (h' : Int), l.length ≤ 32 → i' ≤ code.length → Q (.ref 1 0 l.length) [some (curO code i' h'), some (.arr 3 (nodeRows l))]) : GAny [.ptr 0 0 0] [curO code i h] Q := ⟨code, i, h, rfl, rfl, h1, h2, hq⟩

theorem node_atZ {l : List NodeD} {x : Int} (h0 : 0 ≤ x) (h1 : x < l.length) : (nodeRows l)[0 + x.toNat]? = some (nodeRow (l.getD x.toNat default)) := by
  rw [Nat.zero_add]
  have hx : x.toNat < l.length := by omega
  simp [nodeRows, List.getElem?_eq_getElem hx, List.getD_eq_getElem?_getD]
theorem node_set {l : List NodeD} {j : Nat} {n : NodeD} : (nodeRows l).set (0 + j) (nodeRow n) = nodeRows (l.set j n) := by
  rw [Nat.zero_add]
  simp [nodeRows, List.map_set]

set_option maxHeartbeats 4000000 in
theorem s_spec_l8DrawAny : GenSound Try.prog 95 1 GAny := by
  have hR : Rely Try.prog (ctxOf [(87, .gen 1 GBelow), (104, .gen 1 GRight)]) := rely_cons b_spec_l1Below.has s_spec_l1Below (rely_cons b_spec_l8DrawRight.has s_spec_l8DrawRight (rely_nil mixed))
  refine gen_of_aw b_spec_l8DrawAny ?_
  rintro xs objs Q - ⟨code, i, h, rfl, rfl, h1, h2, hq⟩ -
  refine ⟨by simp, ?_⟩
  refine Aw.meet (α := Unit) (fun _ => True) (fun _ => [(0, .ptr 0 0 0)]) (fun _ => [some (curO code i h)]) ?_ ?_
  · refine vc2_sound hR _ _ _ _ _ ?_
    conv => whnf
    repeat' (first
      | (refine And.intro (fun hb => ?_) (fun hb => ?_)
         all_goals (try simp only [decide_eq_true_eq, decide_eq_false_iff_not, Bool.not_eq_true', Bool.not_eq_false', Bool.not_not, ne_eq, length_ints, List.length_map, beq_iff_eq, bne_iff_ne, beq_eq_false_iff_ne, bne_eq_false_iff_eq, Int.not_le, Int.not_lt, ge_iff_le, gt_iff_lt, reduceCtorEq, not_false_eq_true, not_true_eq_false, Bool.false_eq_true, Bool.true_eq_false] at hb)
         all_goals (try (exfalso; omega))
         all_goals conv => whnf)
      | (refine And.intro (live_all rfl) ?_; conv => whnf)
      | (refine And.intro rfl ?_; conv => whnf)
      | (refine ⟨_, IntWalk.i64_in _ (by omega), ?_⟩; conv => whnf)
      | (refine And.intro (okcs_all rfl) ?_; conv => whnf)
      | (refine And.intro (okvs_all rfl) ?_; conv => whnf)
      | (refine And.intro (frees_all rfl) ?_; conv => whnf)
      | (refine And.intro (bsl_all rfl) ?_; conv => whnf)
      | (refine And.intro (lens_all rfl) ?_; conv => whnf)
      | (refine And.intro (Nat.le_of_ble_eq_true rfl) ?_; conv => whnf)
      | (rw [ints_at (by omega)]; conv => whnf)
      | (rw [ints_at0 (by omega)]; conv => whnf)
      | (rw [ints_at' (by omega) (by omega)]; conv => whnf)
      | (refine And.intro (show (_ + 1) * _ ≤ _ by omega) ?_; conv => whnf)
      | (refine And.intro (show _ + 1 ≤ _ by omega) ?_; conv => whnf)
      | (refine And.intro (by first | omega | (simp only [length_ints]; omega)) ?_; conv => whnf)
      | fail)
    refine ⟨(), trivial, [some 0], rfl, rfl, And.intro (And.intro (.inl rfl) (And.intro (.inl rfl) (And.intro (.inl rfl) trivial))) trivial, ?_⟩
    repeat' (first
      | exact trivial
      | refine ⟨?_, ?_⟩
      | fail)
    all_goals first
      | with_reducible rfl
      | (conv => whnf
         try left
         conv => lhs; whnf
         first
           | rfl
           | exact congrArg (AV.int .i64) (by omega)
           | skip)
  rintro _ -
  refine Aw.meet (α := List NodeD × Nat × Int) (fun a => 1 ≤ a.1.length ∧ a.1.length ≤ 31 ∧ a.2.1 ≤ code.length) (fun a => [(0, .ptr 0 0 0), (3, .ref 1 0 a.1.length)]) (fun a => [some (curO code a.2.1 a.2.2), some (.arr 3 (nodeRows a.1))]) ?_ ?_
  · refine vc2_sound hR _ _ _ _ _ ?_
    conv => whnf
    repeat' (first
      | (refine And.intro (fun hb => ?_) (fun hb => ?_)
         all_goals (try simp only [decide_eq_true_eq, decide_eq_false_iff_not, Bool.not_eq_true', Bool.not_eq_false', Bool.not_not, ne_eq, length_ints, List.length_map, beq_iff_eq, bne_iff_ne, beq_eq_false_iff_ne, bne_eq_false_iff_eq, Int.not_le, Int.not_lt, ge_iff_le, gt_iff_lt, reduceCtorEq, not_false_eq_true, not_true_eq_false, Bool.false_eq_true, Bool.true_eq_false] at hb)
         all_goals (try (exfalso; omega))
         all_goals conv => whnf)
      | (refine And.intro (live_all rfl) ?_; conv => whnf)
      | (refine And.intro rfl ?_; conv => whnf)
      | (refine ⟨_, IntWalk.i64_in _ (by omega), ?_⟩; conv => whnf)
      | (refine And.intro (okcs_all rfl) ?_; conv => whnf)
      | (refine And.intro (okvs_all rfl) ?_; conv => whnf)
      | (refine And.intro (frees_all rfl) ?_; conv => whnf)
      | (refine And.intro (bsl_all rfl) ?_; conv => whnf)
      | (refine And.intro (lens_all rfl) ?_; conv => whnf)
      | (refine And.intro (Nat.le_of_ble_eq_true rfl) ?_; conv => whnf)
      | (rw [ints_at (by omega)]; conv => whnf)
      | (rw [ints_at0 (by omega)]; conv => whnf)
      | (rw [ints_at' (by omega) (by omega)]; conv => whnf)
      | (refine And.intro (show (_ + 1) * _ ≤ _ by omega) ?_; conv => whnf)
      | (refine And.intro (show _ + 1 ≤ _ by omega) ?_; conv => whnf)
      | (refine And.intro (by first | omega | (simp only [length_ints]; omega)) ?_; conv => whnf)
      | (refine ⟨GRight_mk (by omega) (by omega) (by omega) (fun t i' h' ht1 ht2 hi' => ?_)⟩; conv => whnf)
      | fail)
    have htp := t.size_pos
    refine ⟨(t.enc 0, i', h'), ⟨by rw [Tr.length_enc]; exact htp, by rw [Tr.length_enc]; exact ht2, hi'⟩, [some 0, some 1], rfl, rfl, And.intro (And.intro (.inl rfl) (And.intro (.inl rfl) (And.intro (.inl rfl) trivial))) (And.intro (And.intro rfl rfl) trivial), ?_⟩
    repeat' (first
      | exact trivial
      | refine ⟨?_, ?_⟩
      | fail)
    all_goals first
      | with_reducible rfl
      | (conv => whnf
         try left
         conv => lhs; whnf
         first
           | rfl
           | exact congrArg (AV.int .i64) (by omega)
           | skip)
  rintro ⟨l, i1, h1'⟩ ⟨hl1, hl2, hi1⟩
  dsimp only at hl1 hl2 hi1 ⊢
  have hln := length_nodeRows l
  refine Aw.meet (α := Int × Nat × Int) (fun a => 0 ≤ a.1 ∧ a.1 < l.length ∧ a.2.1 ≤ code.length) (fun a => [(0, .ptr 0 0 0), (3, .ref 1 0 l.length), (4, .int .i64 a.1)]) (fun a => [some (curO code a.2.1 a.2.2), some (.arr 3 (nodeRows l))]) ?_ ?_
  · refine vc2_sound hR _ _ _ _ _ ?_
    conv => whnf
    repeat' (first
      | (refine And.intro (fun hb => ?_) (fun hb => ?_)
         all_goals (try simp only [decide_eq_true_eq, decide_eq_false_iff_not, Bool.not_eq_true', Bool.not_eq_false', Bool.not_not, ne_eq, length_ints, List.length_map, beq_iff_eq, bne_iff_ne, beq_eq_false_iff_ne, bne_eq_false_iff_eq, Int.not_le, Int.not_lt, ge_iff_le, gt_iff_lt, reduceCtorEq, not_false_eq_true, not_true_eq_false, Bool.false_eq_true, Bool.true_eq_false] at hb)
         all_goals (try (exfalso; omega))
         all_goals conv => whnf)
      | (refine And.intro (live_all rfl) ?_; conv => whnf)
      | (refine And.intro rfl ?_; conv => whnf)
      | (refine ⟨_, IntWalk.i64_in _ (by omega), ?_⟩; conv => whnf)
      | (refine And.intro (okcs_all rfl) ?_; conv => whnf)
      | (refine And.intro (okvs_all rfl) ?_; conv => whnf)
      | (refine And.intro (frees_all rfl) ?_; conv => whnf)
      | (refine And.intro (bsl_all rfl) ?_; conv => whnf)
      | (refine And.intro (lens_all rfl) ?_; conv => whnf)
      | (refine And.intro (Nat.le_of_ble_eq_true rfl) ?_; conv => whnf)
      | (rw [ints_at (by omega)]; conv => whnf)
      | (rw [ints_at0 (by omega)]; conv => whnf)
      | (rw [ints_at' (by omega) (by omega)]; conv => whnf)
      | (refine And.intro (show (_ + 1) * _ ≤ _ by omega) ?_; conv => whnf)
      | (refine And.intro (show _ + 1 ≤ _ by omega) ?_; conv => whnf)
      | (refine And.intro (by first | omega | (simp only [length_ints]; omega)) ?_; conv => whnf)
      | (refine ⟨GBelow_mk (by omega) (by omega) (by omega) (fun x i' h' hx0 hx1 hi' => ?_)⟩; conv => whnf)
      | fail)
    refine ⟨(x, i', h'), ⟨hx0, by dsimp only; omega, hi'⟩, [some 0, some 1], rfl, rfl, And.intro (And.intro (.inl rfl) (And.intro (.inl rfl) (And.intro (.inl rfl) trivial))) (And.intro (And.intro rfl rfl) trivial), ?_⟩
    repeat' (first
      | exact trivial
      | refine ⟨?_, ?_⟩
      | fail)
    all_goals first
      | with_reducible rfl
      | (conv => whnf
         try left
         conv => lhs; whnf
         first
           | rfl
           | exact congrArg (AV.int .i64) (by omega)
           | skip)
  rintro ⟨x, i2, h2'⟩ ⟨hx0, hx1, hi2⟩
  dsimp only at hx0 hx1 hi2 ⊢
  refine Aw.meet (α := List NodeD × Nat × Int) (fun a => a.1.length ≤ 32 ∧ a.2.1 ≤ code.length) (fun a => [(3, .ref 1 0 a.1.length)]) (fun a => [some (curO code a.2.1 a.2.2), some (.arr 3 (nodeRows a.1))]) ?_ ?_
  · refine vc2_sound hR _ _ _ _ _ ?_
    conv => whnf
    repeat' (first
      | (refine And.intro (fun hb => ?_) (fun hb => ?_)
         all_goals (try simp only [decide_eq_true_eq, decide_eq_false_iff_not, Bool.not_eq_true', Bool.not_eq_false', Bool.not_not, ne_eq, length_ints, List.length_map, beq_iff_eq, bne_iff_ne, beq_eq_false_iff_ne, bne_eq_false_iff_eq, Int.not_le, Int.not_lt, ge_iff_le, gt_iff_lt, reduceCtorEq, not_false_eq_true, not_true_eq_false, Bool.false_eq_true, Bool.true_eq_false] at hb)
         all_goals (try (exfalso; omega))
         all_goals conv => whnf)
      | (refine And.intro (live_all rfl) ?_; conv => whnf)
      | (refine And.intro rfl ?_; conv => whnf)
      | (refine ⟨_, IntWalk.i64_in _ (by omega), ?_⟩; conv => whnf)
      | (refine And.intro (okcs_all rfl) ?_; conv => whnf)
      | (refine And.intro (okvs_all rfl) ?_; conv => whnf)
      | (refine And.intro (frees_all rfl) ?_; conv => whnf)
      | (refine And.intro (bsl_all rfl) ?_; conv => whnf)
      | (refine And.intro (lens_all rfl) ?_; conv => whnf)
      | (refine And.intro (Nat.le_of_ble_eq_true rfl) ?_; conv => whnf)
      | (rw [ints_at (by omega)]; conv => whnf)
      | (rw [ints_at0 (by omega)]; conv => whnf)
      | (rw [ints_at' (by omega) (by omega)]; conv => whnf)
      | (refine And.intro (show (_ + 1) * _ ≤ _ by omega) ?_; conv => whnf)
      | (refine And.intro (show _ + 1 ≤ _ by omega) ?_; conv => whnf)
      | (refine And.intro (by first | omega | (simp only [length_ints]; omega)) ?_; conv => whnf)
      | (refine ⟨GBelow_mk (by omega) (by omega) (by omega) (fun y i' h' hy0 hy1 hi' => ?_)⟩; conv => whnf)
      | (rw [node_atZ (by omega) (by omega)]; conv => whnf)
      | (refine ⟨_, rfl, ?_⟩; conv => whnf)
      | fail)
    · refine ⟨(l.set x.toNat ⟨y, (l.getD x.toNat default).a, (l.getD x.toNat default).b⟩, i', h'), ⟨by simp; omega, hi'⟩, [some 0, some 1], rfl, rfl, And.intro (And.intro (.inl rfl) (And.intro (.inl rfl) (And.intro (.inl rfl) trivial))) (And.intro (And.intro rfl (node_set (l := l) (j := x.toNat) (n := ⟨y, (l.getD x.toNat default).a, (l.getD x.toNat default).b⟩))) trivial), ?_⟩
      repeat' (first
        | exact trivial
        | refine ⟨?_, ?_⟩
        | fail)
      all_goals first
        | with_reducible rfl
        | (conv => whnf
           try left
           conv => lhs; whnf
           first
             | rfl
             | exact congrArg (AV.int .i64) (by omega)
             | skip)
      all_goals simp
    · refine ⟨(l.set x.toNat ⟨(l.getD x.toNat default).kind, IntKind.i64.wrap ((l.getD x.toNat default).a + 1), (l.getD x.toNat default).b⟩, _, _), ⟨by simp; omega, ?_⟩, [some 0, some 1], rfl, rfl, And.intro (And.intro (.inl rfl) (And.intro (.inl rfl) (And.intro (.inl rfl) trivial))) (And.intro (And.intro rfl (node_set (l := l) (j := x.toNat) (n := ⟨(l.getD x.toNat default).kind, IntKind.i64.wrap ((l.getD x.toNat default).a + 1), (l.getD x.toNat default).b⟩))) trivial), ?_⟩
      · dsimp only; omega
      repeat' (first
        | exact trivial
        | refine ⟨?_, ?_⟩
        | fail)
      all_goals first
        | with_reducible rfl
        | (conv => whnf
           try left
           conv => lhs; whnf
           first
             | rfl
             | exact congrArg (AV.int .i64) (by omega)
             | skip)
      all_goals simp
    · refine ⟨(l.set x.toNat ⟨(l.getD x.toNat default).kind, (l.getD x.toNat default).a, y⟩, i', h'), ⟨by simp; omega, hi'⟩, [some 0, some 1], rfl, rfl, And.intro (And.intro (.inl rfl) (And.intro (.inl rfl) (And.intro (.inl rfl) trivial))) (And.intro (And.intro rfl (node_set (l := l) (j := x.toNat) (n := ⟨(l.getD x.toNat default).kind, (l.getD x.toNat default).a, y⟩))) trivial), ?_⟩
      repeat' (first
        | exact trivial
        | refine ⟨?_, ?_⟩
        | fail)
      all_goals first
        | with_reducible rfl
        | (conv => whnf
           try left
           conv => lhs; whnf
           first
             | rfl
             | exact congrArg (AV.int .i64) (by omega)
             | skip)
      all_goals simp
    · refine ⟨(l ++ [NodeD.mk 1 0 0], _, _), ⟨by simp; omega, ?_⟩, [some 0, some 2], rfl, rfl, And.intro (And.intro (.inl rfl) (And.intro (.inl rfl) (And.intro (.inl rfl) trivial))) (And.intro (And.intro rfl node_app) trivial), ?_⟩
      · dsimp only; omega
      repeat' (first
        | exact trivial
        | refine ⟨?_, ?_⟩
        | fail)
      all_goals first
        | with_reducible rfl
        | (conv => whnf
           try left
           conv => lhs; whnf
           first
             | rfl
             | exact congrArg (AV.int .i64) (by omega)
             | skip)
      all_goals exact congrArg (AV.ref 2 0) (by simp)
    · refine ⟨([], _, _), ⟨by simp, ?_⟩, [some 0, none], rfl, rfl, And.intro (And.intro (.inl rfl) (And.intro (.inl rfl) (And.intro (.inl rfl) trivial))) (And.intro rfl trivial), ?_⟩
      · dsimp only; omega
      repeat' (first
        | exact trivial
        | refine ⟨?_, ?_⟩
        | fail)
      all_goals first
        | with_reducible rfl
        | (conv => whnf
           try left
           conv => lhs; whnf
           first
             | rfl
             | exact congrArg (AV.int .i64) (by omega)
             | skip)
    · refine ⟨(l, _, _), ⟨by dsimp only; omega, ?_⟩, [some 0, some 1], rfl, rfl, And.intro (And.intro (.inl rfl) (And.intro (.inl rfl) (And.intro (.inl rfl) trivial))) (And.intro (And.intro rfl rfl) trivial), ?_⟩
      · dsimp only; omega
      repeat' (first
        | exact trivial
        | refine ⟨?_, ?_⟩
        | fail)
      all_goals first
        | with_reducible rfl
        | (conv => whnf
           try left
           conv => lhs; whnf
           first
             | rfl
             | exact congrArg (AV.int .i64) (by omega)
             | skip)
  rintro ⟨l, i', h'⟩ ⟨hl, hi'⟩
  dsimp only at hl hi' ⊢
  refine vc2_sound hR _ _ _ _ _ ?_
  conv => whnf
  repeat' (first
    | (refine And.intro (fun hb => ?_) (fun hb => ?_)
       all_goals (try simp only [decide_eq_true_eq, decide_eq_false_iff_not, Bool.not_eq_true', Bool.not_eq_false', Bool.not_not, ne_eq, length_ints, List.length_map, beq_iff_eq, bne_iff_ne, beq_eq_false_iff_ne, bne_eq_false_iff_eq, Int.not_le, Int.not_lt, ge_iff_le, gt_iff_lt, reduceCtorEq, not_false_eq_true, not_true_eq_false, Bool.false_eq_true, Bool.true_eq_false] at hb)
       all_goals (try (exfalso; omega))
       all_goals conv => whnf)
    | (refine And.intro (live_all rfl) ?_; conv => whnf)
    | (refine And.intro rfl ?_; conv => whnf)
    | (refine ⟨_, IntWalk.i64_in _ (by omega), ?_⟩; conv => whnf)
    | (refine And.intro (okcs_all rfl) ?_; conv => whnf)
    | (refine And.intro (okvs_all rfl) ?_; conv => whnf)
    | (refine And.intro (frees_all rfl) ?_; conv => whnf)
    | (refine And.intro (bsl_all rfl) ?_; conv => whnf)
    | (refine And.intro (lens_all rfl) ?_; conv => whnf)
    | (refine And.intro (Nat.le_of_ble_eq_true rfl) ?_; conv => whnf)
    | (rw [ints_at (by omega)]; conv => whnf)
    | (rw [ints_at0 (by omega)]; conv => whnf)
    | (rw [ints_at' (by omega) (by omega)]; conv => whnf)
    | (refine And.intro (show (_ + 1) * _ ≤ _ by omega) ?_; conv => whnf)
    | (refine And.intro (show _ + 1 ≤ _ by omega) ?_; conv => whnf)
    | (refine And.intro (by first | omega | (simp only [length_ints]; omega)) ?_; conv => whnf)
    | fail)
  refine ⟨.inl rfl, ?_⟩
  conv => whnf
  exact ⟨[some 0, some 1], .ref 1 0 _, [some (curO code i' h'), some (.arr 3 (nodeRows l))], ⟨rfl, And.intro (And.intro (.inl rfl) (And.intro (.inl rfl) (And.intro (.inl rfl) trivial))) (And.intro (And.intro rfl rfl) trivial)⟩, rfl, rfl, hq l i' h' hl hi'⟩

def GDrawLtl : GFun := fun xs objs Q => ∃ (code : List UInt8), xs = [.val (code.map byteRow)] ∧ objs = [] ∧ code.length ≤ 1048576 ∧ ∀ (l : List NodeD), l.length ≤ 32 → Q (.ref 0 0 l.length) [some (.arr 3 (nodeRows l))]
theorem GDrawLtl_mk {code : List UInt8} {Q : AV → List (Option AObj) → Prop} (h2 : code.length ≤ 1048576) (hq : ∀ (l : List NodeD), l.length ≤ 32 → Q (.ref 0 0 l.length) [some (.arr 3 (nodeRows l))]) : GDrawLtl [.val (code.map byteRow)] [] Q := ⟨code, rfl, rfl, h2, hq⟩

theorem s_spec_DrawLtlPrint : GenSound Try.prog 38 0 GDrawLtl := by
  have hR : Rely Try.prog (ctxOf [(82, .gen 0 GNew), (95, .gen 1 GAny)]) := rely_cons b_spec_l1New.has s_spec_l1New (rely_cons b_spec_l8DrawAny.has s_spec_l8DrawAny (rely_nil mixed))
  refine gen_of_aw b_spec_DrawLtlPrint ?_
  rintro xs objs Q - ⟨code, rfl, rfl, h2, hq⟩ -
  refine ⟨by simp, vc2_sound hR _ _ _ _ _ ?_⟩
  conv => whnf
  repeat' (first
    | (refine And.intro (fun hb => ?_) (fun hb => ?_)
       all_goals (try simp only [decide_eq_true_eq, decide_eq_false_iff_not, Bool.not_eq_true', Bool.not_eq_false', Bool.not_not, ne_eq, length_ints, List.length_map, beq_iff_eq, bne_iff_ne, beq_eq_false_iff_ne, bne_eq_false_iff_eq, Int.not_le, Int.not_lt, ge_iff_le, gt_iff_lt, reduceCtorEq, not_false_eq_true, not_true_eq_false, Bool.false_eq_true, Bool.true_eq_false] at hb)
       all_goals (try (exfalso; omega))
       all_goals conv => whnf)
    | (refine And.intro (live_all rfl) ?_; conv => whnf)
    | (refine And.intro rfl ?_; conv => whnf)
    | (refine ⟨_, IntWalk.i64_in _ (by omega), ?_⟩; conv => whnf)
    | (refine And.intro (okcs_all rfl) ?_; conv => whnf)
    | (refine And.intro (okvs_all rfl) ?_; conv => whnf)
    | (refine And.intro (frees_all rfl) ?_; conv => whnf)
    | (refine And.intro (bsl_all rfl) ?_; conv => whnf)
    | (refine And.intro (lens_all rfl) ?_; conv => whnf)
    | (refine And.intro (Nat.le_of_ble_eq_true rfl) ?_; conv => whnf)
    | (rw [ints_at (by omega)]; conv => whnf)
    | (rw [ints_at0 (by omega)]; conv => whnf)
    | (rw [ints_at' (by omega) (by omega)]; conv => whnf)
    | (refine And.intro (show (_ + 1) * _ ≤ _ by omega) ?_; conv => whnf)
    | (refine And.intro (show _ + 1 ≤ _ by omega) ?_; conv => whnf)
    | (refine And.intro (by first | omega | (simp only [length_ints]; omega)) ?_; conv => whnf)
    | (refine ⟨GNew_mk h2 (fun h => ?_)⟩; conv => whnf)
    | (refine ⟨GAny_mk (by omega) (by omega) (fun l i' h' hl hi' => ?_)⟩; conv => whnf)
    | fail)
  refine ⟨.inl rfl, ?_⟩
  conv => whnf
  exact ⟨[some 1], .ref 0 0 l.length, [some (.arr 3 (nodeRows l))], ⟨rfl, And.intro (And.intro rfl rfl) trivial⟩, rfl, rfl, hq l hl⟩

theorem RPrintAll_eq {xs : List AV} {l : List NodeD} {t : Tr} {x : Int} (h : xs = [.val (nodeRows l), .int .i64 x]) (hx : x + 1 = (t.size : Int)) (h1 : t.ok) (h2 : t.At l 0) (h4 : l.length ≤ 1000000) : RPrintAll xs (.str (txt t)) [] :=
  ⟨t.size, l, t, 0, x, h, by rw [hx, Nat.zero_add], h1, h2, Nat.le_refl _, h4, rfl, rfl⟩

abbrev ltlL (a : List UInt8 × Nat × Int) : List (Nat × AV) := [(3, .ptr 0 0 0), (5, .str a.1)]
abbrev CURS : List (List UInt8) := [[48, 85, 49, 85, 50], [48, 85, 49, 38, 50, 124, 70, 48], [33, 71, 40, 48, 124, 49, 41, 82, 50], [88, 88, 48], [71, 32, 70, 32, 49], [48, 82, 88, 49, 85, 33, 50, 38, 116], [70, 71, 48, 124, 71, 70, 33, 48]]
abbrev DENTS : List (List UInt8) := [[33], [40], [41], [38], [124], [48], [51], [116], [85], [88], [32]]

set_option maxHeartbeats 4000000 in
theorem s_spec_DrawLtlParse : GenSound Try.prog 44 0 GDrawRead := by
  have hR : Rely Try.prog (ctxOf [(82, .gen 0 GNew), (104, .gen 1 GRight), (105, .pure RPrintAll), (85, .gen 1 GOnce), (106, .gen 2 GPick), (86, .gen 2 GDent), (87, .gen 1 GBelow)]) :=
    rely_cons b_spec_l1New.has s_spec_l1New (rely_cons b_spec_l8DrawRight.has s_spec_l8DrawRight (rely_cons b_spec_l8Print.has s_spec_l8Print (rely_cons b_spec_l1Once.has s_spec_l1Once (rely_cons b_spec_l1Pick.has s_spec_l1Pick (rely_cons b_spec_l2Dent.has s_spec_l2Dent (rely_cons b_spec_l1Below.has s_spec_l1Below (rely_nil mixed)))))))
  refine gen_of_aw b_spec_DrawLtlParse ?_
  rintro xs objs Q - ⟨code, rfl, rfl, h2, hq⟩ -
  refine ⟨by simp, ?_⟩
  refine Aw.meet (α := Unit) (fun _ => True) (fun _ => [(0, .val (code.map byteRow))]) (fun _ => []) ?_ ?_
  · refine vc2_sound hR _ _ _ _ _ ?_
    conv => whnf
    repeat' (first
      | (refine And.intro (fun hb => ?_) (fun hb => ?_)
         all_goals (try simp only [decide_eq_true_eq, decide_eq_false_iff_not, Bool.not_eq_true', Bool.not_eq_false', Bool.not_not, ne_eq, length_ints, List.length_map, beq_iff_eq, bne_iff_ne, beq_eq_false_iff_ne, bne_eq_false_iff_eq, Int.not_le, Int.not_lt, ge_iff_le, gt_iff_lt, reduceCtorEq, not_false_eq_true, not_true_eq_false, Bool.false_eq_true, Bool.true_eq_false] at hb)
         all_goals (try (exfalso; omega))
         all_goals conv => whnf)
      | (refine And.intro (live_all rfl) ?_; conv => whnf)
      | (refine And.intro rfl ?_; conv => whnf)
      | (refine ⟨_, IntWalk.i64_in _ (by omega), ?_⟩; conv => whnf)
      | (refine And.intro (okcs_all rfl) ?_; conv => whnf)
      | (refine And.intro (okvs_all rfl) ?_; conv => whnf)
      | (refine And.intro (frees_all rfl) ?_; conv => whnf)
      | (refine And.intro (bsl_all rfl) ?_; conv => whnf)
      | (refine And.intro (lens_all rfl) ?_; conv => whnf)
      | (refine And.intro (Nat.le_of_ble_eq_true rfl) ?_; conv => whnf)
      | (rw [ints_at (by omega)]; conv => whnf)
      | (rw [ints_at0 (by omega)]; conv => whnf)
      | (rw [ints_at' (by omega) (by omega)]; conv => whnf)
      | (refine And.intro (show (_ + 1) * _ ≤ _ by omega) ?_; conv => whnf)
      | (refine And.intro (show _ + 1 ≤ _ by omega) ?_; conv => whnf)
      | (refine And.intro (by first | omega | (simp only [length_ints]; omega)) ?_; conv => whnf)
      | fail)
    refine ⟨(), trivial, [], rfl, rfl, ?_, ?_⟩
    · repeat' (first | exact trivial | exact rfl | exact Or.inl rfl | refine And.intro ?_ ?_)
    · repeat' (first
        | exact trivial
        | refine ⟨?_, ?_⟩
        | fail)
      all_goals first
        | with_reducible rfl
        | (conv => whnf
           try left
           conv => lhs; whnf
           first
             | rfl
             | exact congrArg (AV.int .i64) (by omega)
             | skip)
  rintro _ -
  refine Aw.meet (α := Int) (fun _ => True) (fun _ => [(3, .ptr 0 0 0)]) (fun h => [some (curO code 0 h)]) ?_ ?_
  · refine vc2_sound hR _ _ _ _ _ ?_
    conv => whnf
    repeat' (first
      | (refine And.intro (fun hb => ?_) (fun hb => ?_)
         all_goals (try simp only [decide_eq_true_eq, decide_eq_false_iff_not, Bool.not_eq_true', Bool.not_eq_false', Bool.not_not, ne_eq, length_ints, List.length_map, beq_iff_eq, bne_iff_ne, beq_eq_false_iff_ne, bne_eq_false_iff_eq, Int.not_le, Int.not_lt, ge_iff_le, gt_iff_lt, reduceCtorEq, not_false_eq_true, not_true_eq_false, Bool.false_eq_true, Bool.true_eq_false] at hb)
         all_goals (try (exfalso; omega))
         all_goals conv => whnf)
      | (refine And.intro (live_all rfl) ?_; conv => whnf)
      | (refine And.intro rfl ?_; conv => whnf)
      | (refine ⟨_, IntWalk.i64_in _ (by omega), ?_⟩; conv => whnf)
      | (refine And.intro (okcs_all rfl) ?_; conv => whnf)
      | (refine And.intro (okvs_all rfl) ?_; conv => whnf)
      | (refine And.intro (frees_all rfl) ?_; conv => whnf)
      | (refine And.intro (bsl_all rfl) ?_; conv => whnf)
      | (refine And.intro (lens_all rfl) ?_; conv => whnf)
      | (refine And.intro (Nat.le_of_ble_eq_true rfl) ?_; conv => whnf)
      | (rw [ints_at (by omega)]; conv => whnf)
      | (rw [ints_at0 (by omega)]; conv => whnf)
      | (rw [ints_at' (by omega) (by omega)]; conv => whnf)
      | (refine And.intro (show (_ + 1) * _ ≤ _ by omega) ?_; conv => whnf)
      | (refine And.intro (show _ + 1 ≤ _ by omega) ?_; conv => whnf)
      | (refine And.intro (by first | omega | (simp only [length_ints]; omega)) ?_; conv => whnf)
      | (refine ⟨GNew_mk h2 (fun h => ?_)⟩; conv => whnf)
      | fail)
    refine ⟨h, trivial, [some 0], rfl, rfl, And.intro (And.intro (.inl rfl) (And.intro (.inl rfl) (And.intro (.inl rfl) trivial))) trivial, ?_⟩
    repeat' (first
      | exact trivial
      | refine ⟨?_, ?_⟩
      | fail)
    all_goals first
      | with_reducible rfl
      | (conv => whnf
         try left
         conv => lhs; whnf
         first
           | rfl
           | exact congrArg (AV.int .i64) (by omega)
           | skip)
  rintro h0 -
  refine Aw.meet (α := Tr × Nat × Int) (fun a => a.1.ok ∧ a.1.size ≤ 31 ∧ a.2.1 ≤ code.length) (fun a => [(3, .ptr 0 0 0), (4, .ref 1 0 (a.1.enc 0).length)]) (fun a => [some (curO code a.2.1 a.2.2), some (.arr 3 (nodeRows (a.1.enc 0)))]) ?_ ?_
  · refine vc2_sound hR _ _ _ _ _ ?_
    conv => whnf
    repeat' (first
      | (refine And.intro (fun hb => ?_) (fun hb => ?_)
         all_goals (try simp only [decide_eq_true_eq, decide_eq_false_iff_not, Bool.not_eq_true', Bool.not_eq_false', Bool.not_not, ne_eq, length_ints, List.length_map, beq_iff_eq, bne_iff_ne, beq_eq_false_iff_ne, bne_eq_false_iff_eq, Int.not_le, Int.not_lt, ge_iff_le, gt_iff_lt, reduceCtorEq, not_false_eq_true, not_true_eq_false, Bool.false_eq_true, Bool.true_eq_false] at hb)
         all_goals (try (exfalso; omega))
         all_goals conv => whnf)
      | (refine And.intro (live_all rfl) ?_; conv => whnf)
      | (refine And.intro rfl ?_; conv => whnf)
      | (refine ⟨_, IntWalk.i64_in _ (by omega), ?_⟩; conv => whnf)
      | (refine And.intro (okcs_all rfl) ?_; conv => whnf)
      | (refine And.intro (okvs_all rfl) ?_; conv => whnf)
      | (refine And.intro (frees_all rfl) ?_; conv => whnf)
      | (refine And.intro (bsl_all rfl) ?_; conv => whnf)
      | (refine And.intro (lens_all rfl) ?_; conv => whnf)
      | (refine And.intro (Nat.le_of_ble_eq_true rfl) ?_; conv => whnf)
      | (rw [ints_at (by omega)]; conv => whnf)
      | (rw [ints_at0 (by omega)]; conv => whnf)
      | (rw [ints_at' (by omega) (by omega)]; conv => whnf)
      | (refine And.intro (show (_ + 1) * _ ≤ _ by omega) ?_; conv => whnf)
      | (refine And.intro (show _ + 1 ≤ _ by omega) ?_; conv => whnf)
      | (refine And.intro (by first | omega | (simp only [length_ints]; omega)) ?_; conv => whnf)
      | (refine ⟨GRight_mk (by omega) (by omega) (by omega) (fun t i' h' ht1 ht2 hi' => ?_)⟩; conv => whnf)
      | fail)
    refine ⟨(t, i', h'), ⟨ht1, ht2, hi'⟩, [some 0, some 1], rfl, rfl, And.intro (And.intro (.inl rfl) (And.intro (.inl rfl) (And.intro (.inl rfl) trivial))) (And.intro (And.intro rfl rfl) trivial), ?_⟩
    repeat' (first
      | exact trivial
      | refine ⟨?_, ?_⟩
      | fail)
    all_goals first
      | with_reducible rfl
      | (conv => whnf
         try left
         conv => lhs; whnf
         first
           | rfl
           | exact congrArg (AV.int .i64) (by omega)
           | skip)
  rintro ⟨t, i1, h1⟩ ⟨ht1, ht2, hi1⟩
  dsimp only at ht1 ht2 hi1 ⊢
  have hlt := length_txt t
  have hle := t.length_enc 0
  have hat : t.At (t.enc 0) 0 := Tr.At_of t 0 [] [] (by simp) rfl
  refine Aw.meet (α := List UInt8 × Nat × Int) (fun a => a.1.length ≤ 200 ∧ a.2.1 ≤ code.length) ltlL (readOO code) ?_ ?_
  · refine vc2_sound hR _ _ _ _ _ ?_
    have hln := length_nodeRows (t.enc 0)
    conv => whnf
    repeat' (first
      | (refine And.intro (fun hb => ?_) (fun hb => ?_)
         all_goals (try simp only [decide_eq_true_eq, decide_eq_false_iff_not, Bool.not_eq_true', Bool.not_eq_false', Bool.not_not, ne_eq, length_ints, List.length_map, beq_iff_eq, bne_iff_ne, beq_eq_false_iff_ne, bne_eq_false_iff_eq, Int.not_le, Int.not_lt, ge_iff_le, gt_iff_lt, reduceCtorEq, not_false_eq_true, not_true_eq_false, Bool.false_eq_true, Bool.true_eq_false] at hb)
         all_goals (try (exfalso; omega))
         all_goals conv => whnf)
      | (refine And.intro (live_all rfl) ?_; conv => whnf)
      | (refine And.intro rfl ?_; conv => whnf)
      | (refine ⟨_, IntWalk.i64_in _ (by omega), ?_⟩; conv => whnf)
      | (refine And.intro (okcs_all rfl) ?_; conv => whnf)
      | (refine And.intro (okvs_all rfl) ?_; conv => whnf)
      | (refine And.intro (frees_all rfl) ?_; conv => whnf)
      | (refine And.intro (bsl_all rfl) ?_; conv => whnf)
      | (refine And.intro (lens_all rfl) ?_; conv => whnf)
      | (refine And.intro (Nat.le_of_ble_eq_true rfl) ?_; conv => whnf)
      | (rw [ints_at (by omega)]; conv => whnf)
      | (rw [ints_at0 (by omega)]; conv => whnf)
      | (rw [ints_at' (by omega) (by omega)]; conv => whnf)
      | (refine And.intro (show (_ + 1) * _ ≤ _ by omega) ?_; conv => whnf)
      | (refine And.intro (show _ + 1 ≤ _ by omega) ?_; conv => whnf)
      | (refine And.intro (by first | omega | (simp only [length_ints]; omega)) ?_; conv => whnf)
      | fail)
    refine ⟨_, _, RPrintAll_eq (l := t.enc 0) (t := t) (x := ((t.enc 0).length : Int) - 1) (by repeat' (first | exact rfl | refine args_cons ?_ ?_ | refine snap_agg ?_ | refine cells_cons ?_ ?_ | exact snap1_all rfl (by first | (simp only [length_ints]; done) | (simp only [length_nodeRows]; done) | simp [ints, marks]) | exact snap_all rfl (by first | (simp only [length_ints]; done) | (simp only [length_nodeRows]; done) | simp [ints, marks]) | exact snap1_all2 rfl (by first | (simp only [length_ints]; done) | (simp only [length_nodeRows]; done) | simp [ints, marks]) | fail)) (by omega) ht1 hat (by omega), ?_⟩
    conv => whnf
    repeat' (first
      | (refine And.intro (fun hb => ?_) (fun hb => ?_)
         all_goals (try simp only [decide_eq_true_eq, decide_eq_false_iff_not, Bool.not_eq_true', Bool.not_eq_false', Bool.not_not, ne_eq, length_ints, List.length_map, beq_iff_eq, bne_iff_ne, beq_eq_false_iff_ne, bne_eq_false_iff_eq, Int.not_le, Int.not_lt, ge_iff_le, gt_iff_lt, reduceCtorEq, not_false_eq_true, not_true_eq_false, Bool.false_eq_true, Bool.true_eq_false] at hb)
         all_goals (try (exfalso; omega))
         all_goals conv => whnf)
      | (refine And.intro (live_all rfl) ?_; conv => whnf)
      | (refine And.intro rfl ?_; conv => whnf)
      | (refine ⟨_, IntWalk.i64_in _ (by omega), ?_⟩; conv => whnf)
      | (refine And.intro (okcs_all rfl) ?_; conv => whnf)
      | (refine And.intro (okvs_all rfl) ?_; conv => whnf)
      | (refine And.intro (frees_all rfl) ?_; conv => whnf)
      | (refine And.intro (bsl_all rfl) ?_; conv => whnf)
      | (refine And.intro (lens_all rfl) ?_; conv => whnf)
      | (refine And.intro (Nat.le_of_ble_eq_true rfl) ?_; conv => whnf)
      | (rw [ints_at (by omega)]; conv => whnf)
      | (rw [ints_at0 (by omega)]; conv => whnf)
      | (rw [ints_at' (by omega) (by omega)]; conv => whnf)
      | (refine And.intro (show (_ + 1) * _ ≤ _ by omega) ?_; conv => whnf)
      | (refine And.intro (show _ + 1 ≤ _ by omega) ?_; conv => whnf)
      | (refine And.intro (by first | omega | (simp only [length_ints]; omega)) ?_; conv => whnf)
      | fail)
    refine ⟨(txt t, i1, h1), ⟨by dsimp only; omega, hi1⟩, [some 0], rfl, rfl, And.intro (And.intro (.inl rfl) (And.intro (.inl rfl) (And.intro (.inl rfl) trivial))) trivial, ?_⟩
    repeat' (first
      | exact trivial
      | refine ⟨?_, ?_⟩
      | fail)
    all_goals first
      | with_reducible rfl
      | (conv => whnf
         try left
         conv => lhs; whnf
         first
           | rfl
           | exact congrArg (AV.int .i64) (by omega)
           | skip)
  clear hlt hle hat ht1 ht2 hi1 t i1 h1
  rintro ⟨t, i1, h1⟩ ⟨ht, hi1⟩
  dsimp only at ht hi1
  refine Aw.meet (α := List UInt8 × Nat × Int) (fun a => a.1.length ≤ 200 ∧ a.2.1 ≤ code.length) ltlL (readOO code) ?_ ?_
  · refine vc2_sound hR _ _ _ _ _ ?_
    conv => whnf
    repeat' (first
      | (refine And.intro (fun hb => ?_) (fun hb => ?_)
         all_goals (try simp only [decide_eq_true_eq, decide_eq_false_iff_not, Bool.not_eq_true', Bool.not_eq_false', Bool.not_not, ne_eq, length_ints, List.length_map, beq_iff_eq, bne_iff_ne, beq_eq_false_iff_ne, bne_eq_false_iff_eq, Int.not_le, Int.not_lt, ge_iff_le, gt_iff_lt, reduceCtorEq, not_false_eq_true, not_true_eq_false, Bool.false_eq_true, Bool.true_eq_false] at hb)
         all_goals (try (exfalso; omega))
         all_goals conv => whnf)
      | (refine And.intro (live_all rfl) ?_; conv => whnf)
      | (refine And.intro rfl ?_; conv => whnf)
      | (refine ⟨_, IntWalk.i64_in _ (by omega), ?_⟩; conv => whnf)
      | (refine And.intro (okcs_all rfl) ?_; conv => whnf)
      | (refine And.intro (okvs_all rfl) ?_; conv => whnf)
      | (refine And.intro (frees_all rfl) ?_; conv => whnf)
      | (refine And.intro (bsl_all rfl) ?_; conv => whnf)
      | (refine And.intro (lens_all rfl) ?_; conv => whnf)
      | (refine And.intro (Nat.le_of_ble_eq_true rfl) ?_; conv => whnf)
      | (rw [ints_at (by omega)]; conv => whnf)
      | (rw [ints_at0 (by omega)]; conv => whnf)
      | (rw [ints_at' (by omega) (by omega)]; conv => whnf)
      | (refine And.intro (show (_ + 1) * _ ≤ _ by omega) ?_; conv => whnf)
      | (refine And.intro (show _ + 1 ≤ _ by omega) ?_; conv => whnf)
      | (refine And.intro (by first | omega | (simp only [length_ints]; omega)) ?_; conv => whnf)
      | (refine ⟨GOnce_mk (by omega) (by omega) (by omega) (fun b i' h' hi' => ?_)⟩; conv => whnf)
      | (refine ⟨GPick_mk (l := CURS) (by omega) (by omega) (by simp) (by simp) (by simp) (fun u i' h' hu hi' => ?_)⟩; conv => whnf)
      | fail)
    all_goals first
      | (refine ⟨(u, i', h'), ⟨by dsimp only; omega, hi'⟩, [some 0], rfl, rfl, And.intro (And.intro (.inl rfl) (And.intro (.inl rfl) (And.intro (.inl rfl) trivial))) trivial, ?_⟩
         repeat' (first
           | exact trivial
           | refine ⟨?_, ?_⟩
           | fail)
         all_goals first
           | with_reducible rfl
           | (conv => whnf
              try left
              conv => lhs; whnf
              first
                | rfl
                | exact congrArg (AV.int .i64) (by omega)
                | skip)
         done)
      | (refine ⟨(t, i', h'), ⟨by dsimp only; omega, hi'⟩, [some 0], rfl, rfl, And.intro (And.intro (.inl rfl) (And.intro (.inl rfl) (And.intro (.inl rfl) trivial))) trivial, ?_⟩
         repeat' (first
           | exact trivial
           | refine ⟨?_, ?_⟩
           | fail)
         all_goals first
           | with_reducible rfl
           | (conv => whnf
              try left
              conv => lhs; whnf
              first
                | rfl
                | exact congrArg (AV.int .i64) (by omega)
                | skip)
         done)
  clear ht hi1 t i1 h1
  rintro ⟨t, i1, h1⟩ ⟨ht, hi1⟩
  dsimp only at ht hi1
  refine Aw.meet (α := List UInt8 × Nat × Int) (fun a => a.1.length ≤ 2100 ∧ a.2.1 ≤ code.length) ltlL (readOO code) ?_ ?_
  · refine vc2_sound hR _ _ _ _ _ ?_
    conv => whnf
    repeat' (first
      | (refine And.intro (fun hb => ?_) (fun hb => ?_)
         all_goals (try simp only [decide_eq_true_eq, decide_eq_false_iff_not, Bool.not_eq_true', Bool.not_eq_false', Bool.not_not, ne_eq, length_ints, List.length_map, beq_iff_eq, bne_iff_ne, beq_eq_false_iff_ne, bne_eq_false_iff_eq, Int.not_le, Int.not_lt, ge_iff_le, gt_iff_lt, reduceCtorEq, not_false_eq_true, not_true_eq_false, Bool.false_eq_true, Bool.true_eq_false] at hb)
         all_goals (try (exfalso; omega))
         all_goals conv => whnf)
      | (refine And.intro (live_all rfl) ?_; conv => whnf)
      | (refine And.intro rfl ?_; conv => whnf)
      | (refine ⟨_, IntWalk.i64_in _ (by omega), ?_⟩; conv => whnf)
      | (refine And.intro (okcs_all rfl) ?_; conv => whnf)
      | (refine And.intro (okvs_all rfl) ?_; conv => whnf)
      | (refine And.intro (frees_all rfl) ?_; conv => whnf)
      | (refine And.intro (bsl_all rfl) ?_; conv => whnf)
      | (refine And.intro (lens_all rfl) ?_; conv => whnf)
      | (refine And.intro (Nat.le_of_ble_eq_true rfl) ?_; conv => whnf)
      | (rw [ints_at (by omega)]; conv => whnf)
      | (rw [ints_at0 (by omega)]; conv => whnf)
      | (rw [ints_at' (by omega) (by omega)]; conv => whnf)
      | (refine And.intro (show (_ + 1) * _ ≤ _ by omega) ?_; conv => whnf)
      | (refine And.intro (show _ + 1 ≤ _ by omega) ?_; conv => whnf)
      | (refine And.intro (by first | omega | (simp only [length_ints]; omega)) ?_; conv => whnf)
      | (refine ⟨GOnce_mk (by omega) (by omega) (by omega) (fun b i' h' hi' => ?_)⟩; conv => whnf)
      | (refine ⟨GDent_mk (s := t) (l := DENTS) (by omega) (by omega) (by omega) (by simp) (by simp) (by simp) (fun u i' h' hu hi' => ?_)⟩; conv => whnf)
      | fail)
    all_goals first
      | (refine ⟨(u, i', h'), ⟨by dsimp only; omega, hi'⟩, [some 0], rfl, rfl, And.intro (And.intro (.inl rfl) (And.intro (.inl rfl) (And.intro (.inl rfl) trivial))) trivial, ?_⟩
         repeat' (first
           | exact trivial
           | refine ⟨?_, ?_⟩
           | fail)
         all_goals first
           | with_reducible rfl
           | (conv => whnf
              try left
              conv => lhs; whnf
              first
                | rfl
                | exact congrArg (AV.int .i64) (by omega)
                | skip)
         done)
      | (refine ⟨(t, i', h'), ⟨by dsimp only; omega, hi'⟩, [some 0], rfl, rfl, And.intro (And.intro (.inl rfl) (And.intro (.inl rfl) (And.intro (.inl rfl) trivial))) trivial, ?_⟩
         repeat' (first
           | exact trivial
           | refine ⟨?_, ?_⟩
           | fail)
         all_goals first
           | with_reducible rfl
           | (conv => whnf
              try left
              conv => lhs; whnf
              first
                | rfl
                | exact congrArg (AV.int .i64) (by omega)
                | skip)
         done)
  clear ht hi1 t i1 h1
  rintro ⟨t, i1, h1⟩ ⟨ht, hi1⟩
  dsimp only at ht hi1
  refine Aw.meet (α := List UInt8 × Nat × Int) (fun a => a.1.length ≤ 2200 ∧ a.2.1 ≤ code.length) ltlL (readOO code) ?_ ?_
  · refine vc2_sound hR _ _ _ _ _ ?_
    conv => whnf
    repeat' (first
      | (refine And.intro (fun hb => ?_) (fun hb => ?_)
         all_goals (try simp only [decide_eq_true_eq, decide_eq_false_iff_not, Bool.not_eq_true', Bool.not_eq_false', Bool.not_not, ne_eq, length_ints, List.length_map, beq_iff_eq, bne_iff_ne, beq_eq_false_iff_ne, bne_eq_false_iff_eq, Int.not_le, Int.not_lt, ge_iff_le, gt_iff_lt, reduceCtorEq, not_false_eq_true, not_true_eq_false, Bool.false_eq_true, Bool.true_eq_false] at hb)
         all_goals (try (exfalso; omega))
         all_goals conv => whnf)
      | (refine And.intro (live_all rfl) ?_; conv => whnf)
      | (refine And.intro rfl ?_; conv => whnf)
      | (refine ⟨_, IntWalk.i64_in _ (by omega), ?_⟩; conv => whnf)
      | (refine And.intro (okcs_all rfl) ?_; conv => whnf)
      | (refine And.intro (okvs_all rfl) ?_; conv => whnf)
      | (refine And.intro (frees_all rfl) ?_; conv => whnf)
      | (refine And.intro (bsl_all rfl) ?_; conv => whnf)
      | (refine And.intro (lens_all rfl) ?_; conv => whnf)
      | (refine And.intro (Nat.le_of_ble_eq_true rfl) ?_; conv => whnf)
      | (rw [ints_at (by omega)]; conv => whnf)
      | (rw [ints_at0 (by omega)]; conv => whnf)
      | (rw [ints_at' (by omega) (by omega)]; conv => whnf)
      | (refine And.intro (show (_ + 1) * _ ≤ _ by omega) ?_; conv => whnf)
      | (refine And.intro (show _ + 1 ≤ _ by omega) ?_; conv => whnf)
      | (refine And.intro (by first | omega | (simp only [length_ints]; omega)) ?_; conv => whnf)
      | (refine ⟨GOnce_mk (by omega) (by omega) (by omega) (fun b i' h' hi' => ?_)⟩; conv => whnf)
      | fail)
    · refine Lp.intro (α := List UInt8 × Nat × Int) (fun a => a.1.length ≤ 2200 ∧ a.2.1 ≤ code.length) (fun a => 203 - a.1.length) ltlL (readOO code) ?_ ?_
      · refine ⟨(t, i', h'), ⟨by dsimp only; omega, hi'⟩, [some 0], rfl, rfl, And.intro (And.intro (.inl rfl) (And.intro (.inl rfl) (And.intro (.inl rfl) trivial))) trivial, ?_⟩
        repeat' (first
          | exact trivial
          | refine ⟨?_, ?_⟩
          | fail)
        all_goals first
          | with_reducible rfl
          | (conv => whnf
             try left
             conv => lhs; whnf
             first
               | rfl
               | exact congrArg (AV.int .i64) (by omega)
               | skip)
      · clear hi' i' h' hb b
        rintro ⟨u, i2, h2'⟩ ⟨hu, hi2⟩
        dsimp only at hu hi2
        refine vc2_sound hR _ _ _ _ _ ?_
        conv => whnf
        repeat' (first
          | (refine And.intro (fun hb => ?_) (fun hb => ?_)
             all_goals (try simp only [decide_eq_true_eq, decide_eq_false_iff_not, Bool.not_eq_true', Bool.not_eq_false', Bool.not_not, ne_eq, length_ints, List.length_map, beq_iff_eq, bne_iff_ne, beq_eq_false_iff_ne, bne_eq_false_iff_eq, Int.not_le, Int.not_lt, ge_iff_le, gt_iff_lt, reduceCtorEq, not_false_eq_true, not_true_eq_false, Bool.false_eq_true, Bool.true_eq_false] at hb)
             all_goals (try (exfalso; omega))
             all_goals conv => whnf)
          | (refine And.intro (live_all rfl) ?_; conv => whnf)
          | (refine And.intro rfl ?_; conv => whnf)
          | (refine ⟨_, IntWalk.i64_in _ (by omega), ?_⟩; conv => whnf)
          | (refine And.intro (okcs_all rfl) ?_; conv => whnf)
          | (refine And.intro (okvs_all rfl) ?_; conv => whnf)
          | (refine And.intro (frees_all rfl) ?_; conv => whnf)
          | (refine And.intro (bsl_all rfl) ?_; conv => whnf)
          | (refine And.intro (lens_all rfl) ?_; conv => whnf)
          | (refine And.intro (Nat.le_of_ble_eq_true rfl) ?_; conv => whnf)
          | (rw [ints_at (by omega)]; conv => whnf)
          | (rw [ints_at0 (by omega)]; conv => whnf)
          | (rw [ints_at' (by omega) (by omega)]; conv => whnf)
          | (refine And.intro (show (_ + 1) * _ ≤ _ by omega) ?_; conv => whnf)
          | (refine And.intro (show _ + 1 ≤ _ by omega) ?_; conv => whnf)
          | (refine And.intro (by first | omega | (simp only [length_ints]; omega)) ?_; conv => whnf)
          | (refine ⟨GBelow_mk (by omega) (by omega) (by omega) (fun x i' h' hx0 hx1 hi' => ?_)⟩; conv => whnf)
          | (refine And.intro (by simp only [List.length_cons, List.length_nil]; omega) ?_; conv => whnf)
          | fail)
        · refine ⟨([88] ++ u, i', h'), ⟨by simp; omega, hi'⟩, by simp; omega, [some 0], rfl, rfl, And.intro (And.intro (.inl rfl) (And.intro (.inl rfl) (And.intro (.inl rfl) trivial))) trivial, ?_⟩
          repeat' (first
            | exact trivial
            | refine ⟨?_, ?_⟩
            | fail)
          all_goals first
            | with_reducible rfl
            | (conv => whnf
               try left
               conv => lhs; whnf
               first
                 | rfl
                 | exact congrArg (AV.int .i64) (by omega)
                 | skip)
        · refine ⟨(u, i', h'), ⟨by dsimp only; omega, hi'⟩, [some 0], rfl, rfl, And.intro (And.intro (.inl rfl) (And.intro (.inl rfl) (And.intro (.inl rfl) trivial))) trivial, ?_⟩
          repeat' (first
            | exact trivial
            | refine ⟨?_, ?_⟩
            | fail)
          all_goals first
            | with_reducible rfl
            | (conv => whnf
               try left
               conv => lhs; whnf
               first
                 | rfl
                 | exact congrArg (AV.int .i64) (by omega)
                 | skip)
    · refine ⟨(t, i', h'), ⟨by dsimp only; omega, hi'⟩, [some 0], rfl, rfl, And.intro (And.intro (.inl rfl) (And.intro (.inl rfl) (And.intro (.inl rfl) trivial))) trivial, ?_⟩
      repeat' (first
        | exact trivial
        | refine ⟨?_, ?_⟩
        | fail)
      all_goals first
        | with_reducible rfl
        | (conv => whnf
           try left
           conv => lhs; whnf
           first
             | rfl
             | exact congrArg (AV.int .i64) (by omega)
             | skip)
  clear ht hi1 t i1 h1
  rintro ⟨t, i1, h1⟩ ⟨ht, hi1⟩
  dsimp only at ht hi1
  refine vc2_sound hR _ _ _ _ _ ?_
  conv => whnf
  repeat' (first
    | (refine And.intro (fun hb => ?_) (fun hb => ?_)
       all_goals (try simp only [decide_eq_true_eq, decide_eq_false_iff_not, Bool.not_eq_true', Bool.not_eq_false', Bool.not_not, ne_eq, length_ints, List.length_map, beq_iff_eq, bne_iff_ne, beq_eq_false_iff_ne, bne_eq_false_iff_eq, Int.not_le, Int.not_lt, ge_iff_le, gt_iff_lt, reduceCtorEq, not_false_eq_true, not_true_eq_false, Bool.false_eq_true, Bool.true_eq_false] at hb)
       all_goals (try (exfalso; omega))
       all_goals conv => whnf)
    | (refine And.intro (live_all rfl) ?_; conv => whnf)
    | (refine And.intro rfl ?_; conv => whnf)
    | (refine ⟨_, IntWalk.i64_in _ (by omega), ?_⟩; conv => whnf)
    | (refine And.intro (okcs_all rfl) ?_; conv => whnf)
    | (refine And.intro (okvs_all rfl) ?_; conv => whnf)
    | (refine And.intro (frees_all rfl) ?_; conv => whnf)
    | (refine And.intro (bsl_all rfl) ?_; conv => whnf)
    | (refine And.intro (lens_all rfl) ?_; conv => whnf)
    | (refine And.intro (Nat.le_of_ble_eq_true rfl) ?_; conv => whnf)
    | (rw [ints_at (by omega)]; conv => whnf)
    | (rw [ints_at0 (by omega)]; conv => whnf)
    | (rw [ints_at' (by omega) (by omega)]; conv => whnf)
    | (refine And.intro (show (_ + 1) * _ ≤ _ by omega) ?_; conv => whnf)
    | (refine And.intro (show _ + 1 ≤ _ by omega) ?_; conv => whnf)
    | (refine And.intro (by first | omega | (simp only [length_ints]; omega)) ?_; conv => whnf)
    | fail)
  refine ⟨.inl rfl, ?_⟩
  conv => whnf
  exact ⟨[], .str t, [], ⟨rfl, trivial⟩, .inl rfl, rfl, hq t (by omega)⟩

end Go.Proofs.Ytpfbkblgefddlaa.Ct

