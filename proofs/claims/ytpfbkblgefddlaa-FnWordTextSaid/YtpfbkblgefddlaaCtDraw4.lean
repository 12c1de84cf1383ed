/- Draws of texts of words. -/
import Derived.Test.YtpfbkblgefddlaaCtDraw3
namespace Go.Proofs.Ytpfbkblgefddlaa.Ct
set_option linter.unusedSimpArgs false
set_option linter.unusedVariables false
open Go Go.Proofs Go.Proofs.Ytpfbkblgefddlaa.Av

def c_spec_l1Min : ICode := (.seq (.reg [⟨(some 4), .mv, [(.c (.int .i64 0))], none⟩]) (.seq (.seq (.reg [⟨(some 5), .mv, [(.t 0)], none⟩, ⟨(some 6), .mv, [(.t 1)], none⟩, ⟨(some 7), (.bin .lss), [(.t 5), (.t 6)], none⟩]) (.cond (.t 7) (.seq (.reg [⟨(some 8), .mv, [(.t 0)], none⟩, ⟨(some 4), .mv, [(.t 8)], none⟩]) .ret) .skip)) (.seq (.reg [⟨(some 9), .mv, [(.t 1)], none⟩, ⟨(some 4), .mv, [(.t 9)], none⟩]) .ret)))
theorem b_spec_l1Min : Body Try.prog 140 10 c_spec_l1Min [(.t 4)] := by
  have h1 : comp Try.prog 10 (Try.f140.body.getD .skip) = some c_spec_l1Min := by kernel_rfl
  have h2 : Try.f140.body = some (Try.f140.body.getD .skip) := by kernel_rfl
  have h3 : Try.f140.results.toList.map (cRes Try.prog) = [(some (.t 4))] := by kernel_rfl
  exact ⟨_, _, Try.func140, h2, Try.ntmps140, h1, h3, by decide⟩

def c_spec_l2Dent : ICode := (.seq (.reg [⟨(some 6), .mv, [(.c (.str []))], none⟩]) (.seq (.reg [⟨(some 8), .mv, [(.t 0)], none⟩, ⟨(some 9), .mv, [(.t 1)], none⟩, ⟨(some 10), .lens, [(.t 9)], none⟩, ⟨(some 11), (.bin .add), [(.t 10), (.c (.int .i64 1))], none⟩, ⟨(some 12), (.call 87), [(.t 8), (.t 11)], none⟩, ⟨(some 7), .mv, [(.t 12)], none⟩]) (.seq (.seq (.reg [⟨(some 13), .mv, [(.t 0)], none⟩, ⟨(some 14), (.call 87), [(.t 13), (.c (.int .i64 3))], none⟩]) (.block 0 (.seq (.reg [⟨(some 16), (.bin .eql), [(.t 14), (.c (.int .i64 0))], none⟩, ⟨(some 15), .mv, [(.t 16)], none⟩]) (.cond (.t 15) (.seq (.reg [⟨(some 17), .mv, [(.t 1)], none⟩, ⟨(some 18), .mv, [(.t 7)], none⟩, ⟨(some 19), (.sls false true), [(.t 17), (.t 18)], none⟩, ⟨(some 6), .mv, [(.t 19)], none⟩]) .ret) (.seq (.reg [⟨(some 21), (.bin .eql), [(.t 14), (.c (.int .i64 1))], none⟩, ⟨(some 20), .mv, [(.t 21)], none⟩]) (.cond (.t 20) (.seq (.drw [⟨(some 22), .mv, [(.t 1)], none⟩, ⟨(some 23), .mv, [(.t 7)], none⟩, ⟨(some 24), (.sls false true), [(.t 22), (.t 23)], none⟩, ⟨(some 25), .mv, [(.t 0)], none⟩, ⟨(some 26), .mv, [(.t 2)], none⟩, ⟨(some 27), (.call 106), [(.t 25), (.t 26)], none⟩, ⟨(some 28), (.bin .add), [(.t 24), (.t 27)], none⟩, ⟨(some 29), .mv, [(.t 1)], none⟩, ⟨(some 30), .mv, [(.t 7)], none⟩, ⟨(some 31), (.bin .add), [(.t 30), (.c (.int .i64 1))], none⟩, ⟨(some 32), .mv, [(.t 1)], none⟩, ⟨(some 33), .lens, [(.t 32)], none⟩, ⟨(some 34), (.call 140), [(.t 31), (.t 33)], none⟩, ⟨(some 35), (.sls true false), [(.t 29), (.t 34)], none⟩, ⟨(some 36), (.bin .add), [(.t 28), (.t 35)], none⟩, ⟨(some 6), .mv, [(.t 36)], none⟩] [[], [], [0, 1], [], [], [3, 4], [0, 1, 2, 3, 4, 5], [], [], [8], [], [10], [3, 4, 5, 8, 9, 10, 11], [3, 4, 5, 7, 8, 9, 10, 11, 12], [0, 1, 2, 3, 4, 5, 6, 7, 8, 9, 10, 11, 12, 13], [0, 1, 2, 3, 4, 5, 6, 7, 8, 9, 10, 11, 12, 13, 14]] true true) .ret) .skip)))))) (.seq (.drw [⟨(some 37), .mv, [(.t 1)], none⟩, ⟨(some 38), .mv, [(.t 7)], none⟩, ⟨(some 39), (.sls false true), [(.t 37), (.t 38)], none⟩, ⟨(some 40), .mv, [(.t 0)], none⟩, ⟨(some 41), .mv, [(.t 2)], none⟩, ⟨(some 42), (.call 106), [(.t 40), (.t 41)], none⟩, ⟨(some 43), (.bin .add), [(.t 39), (.t 42)], none⟩, ⟨(some 44), .mv, [(.t 1)], none⟩, ⟨(some 45), .mv, [(.t 7)], none⟩, ⟨(some 46), (.sls true false), [(.t 44), (.t 45)], none⟩, ⟨(some 47), (.bin .add), [(.t 43), (.t 46)], none⟩, ⟨(some 6), .mv, [(.t 47)], none⟩] [[], [], [0, 1], [], [], [3, 4], [0, 1, 2, 3, 4, 5], [], [], [7, 8], [0, 1, 2, 3, 4, 5, 6, 7, 8, 9], [0, 1, 2, 3, 4, 5, 6, 7, 8, 9, 10]] true true) .ret))))
theorem b_spec_l2Dent : Body Try.prog 86 48 c_spec_l2Dent [(.t 6)] := by
  have h1 : comp Try.prog 48 (Try.f86.body.getD .skip) = some c_spec_l2Dent := by kernel_rfl
  have h2 : Try.f86.body = some (Try.f86.body.getD .skip) := by kernel_rfl
  have h3 : Try.f86.results.toList.map (cRes Try.prog) = [(some (.t 6))] := by kernel_rfl
  exact ⟨_, _, Try.func86, h2, Try.ntmps86, h1, h3, by decide⟩

def c_spec_DrawWordRead : ICode := (.seq (.reg [⟨(some 2), .mv, [(.c (.str []))], none⟩]) (.seq (.reg [⟨(some 5), .mv, [(.t 0)], none⟩, ⟨(some 6), (.call 82), [(.t 5)], none⟩, ⟨(some 3), .mv, [(.t 6)], none⟩]) (.seq (.reg [⟨(some 7), .mv, [(.t 3)], none⟩, ⟨(some 8), (.call 84), [(.t 7), (.c (.int .i64 8))], none⟩, ⟨(some 9), (.call 14), [(.t 8)], none⟩, ⟨(some 4), .mv, [(.t 9)], none⟩]) (.seq (.seq (.reg [⟨(some 10), .mv, [(.t 3)], none⟩, ⟨(some 11), (.call 85), [(.t 10), (.c (.int .i64 3))], none⟩]) (.cond (.t 11) (.reg [⟨(some 12), .mv, [(.t 3)], none⟩, ⟨(some 13), .mv, [(.t 4)], none⟩, ⟨(some 14), (.bsl 1), [(.c (.str [48])), (.c (.str [59])), (.c (.str [56])), (.c (.str [120])), (.c (.str [55]))], none⟩, ⟨(some 15), (.call 86), [(.t 12), (.t 13), (.t 14)], none⟩, ⟨(some 4), .mv, [(.t 15)], none⟩]) .skip)) (.seq (.seq (.reg [⟨(some 16), .mv, [(.t 3)], none⟩, ⟨(some 17), (.call 85), [(.t 16), (.c (.int .i64 25))], none⟩]) (.cond (.t 17) (.block 0 (.loop (.seq (.seq (.reg [⟨(some 18), .mv, [(.t 4)], none⟩, ⟨(some 19), .lens, [(.t 18)], none⟩, ⟨(some 20), .mv, [(.t 3)], none⟩, ⟨(some 21), (.call 87), [(.t 20), (.c (.int .i64 3))], none⟩, ⟨(some 22), (.bin .add), [(.c (.int .i64 80)), (.t 21)], none⟩, ⟨(some 23), (.bin .lss), [(.t 19), (.t 22)], none⟩]) (.cond (.t 23) .skip (.exit 0))) (.block 1 (.reg [⟨(some 24), .mv, [(.t 4)], none⟩, ⟨(some 25), (.bin .add), [(.t 24), (.c (.str [48]))], none⟩, ⟨(some 4), .mv, [(.t 25)], none⟩]))))) .skip)) (.seq (.reg [⟨(some 26), .mv, [(.t 4)], none⟩, ⟨(some 2), .mv, [(.t 26)], none⟩]) .ret))))))
theorem b_spec_DrawWordRead : Body Try.prog 31 27 c_spec_DrawWordRead [(.t 2)] := by
  have h1 : comp Try.prog 27 (Try.f31.body.getD .skip) = some c_spec_DrawWordRead := by kernel_rfl
  have h2 : Try.f31.body = some (Try.f31.body.getD .skip) := by kernel_rfl
  have h3 : Try.f31.results.toList.map (cRes Try.prog) = [(some (.t 2))] := by kernel_rfl
  exact ⟨_, _, Try.func31, h2, Try.ntmps31, h1, h3, by decide⟩


def GPick : GFun := fun xs objs Q => ∃ (code : List UInt8) (i : Nat) (h : Int) (l : List (List UInt8)), xs = [.ptr 0 0 0, .ref 1 0 l.length] ∧ objs = [curO code i h, .arr 1 (l.map strRow)] ∧ i ≤ code.length ∧ code.length ≤ 1048576 ∧ 0 < l.length ∧ l.length ≤ 1000 ∧ (∀ p ∈ l, p.length ≤ 100) ∧
  ∀ (t : List UInt8) (i' : Nat) (h' : Int), t.length ≤ 100 → i' ≤ code.length → Q (.str t) [some (curO code i' h'), some (.arr 1 (l.map strRow))]
theorem GPick_mk {code : List UInt8} {i : Nat} {h : Int} {l : List (List UInt8)} {Q : AV → List (Option AObj) → Prop} (h1 : i ≤ code.length) (h2 : code.length ≤ 1048576) (h3 : 0 < l.length) (h4 : l.length ≤ 1000) (h5 : ∀ p ∈ l, p.length ≤ 100)
    (hq : ∀ (t : List UInt8) (i' : Nat) (h' : Int), t.length ≤ 100 → i' ≤ code.length → Q (.str t) [some (curO code i' h'), some (.arr 1 (l.map strRow))]) : GPick [.ptr 0 0 0, .ref 1 0 l.length] [curO code i h, .arr 1 (l.map strRow)] Q :=
  ⟨code, i, h, l, rfl, rfl, h1, h2, h3, h4, h5, hq⟩
theorem GPick_nv (xs : List AV) (objs : List AObj) (Q : AV → List (Option AObj) → Prop) (h : GPick xs objs Q) : ∃ r out, Q r out := by
  obtain ⟨code, i, h, l, _, _, _, _, _, _, _, hq⟩ := h
  exact ⟨_, _, hq [] 0 0 (by simp) (Nat.zero_le _)⟩

theorem strs_atI {l : List (List UInt8)} {x : Int} (h0 : 0 ≤ x) (h1 : x < l.length) : (l.map strRow)[0 + x.toNat]? = some [.str (l.getD x.toNat [])] := by
  rw [Nat.zero_add]
  have hx : x.toNat < l.length := by omega
  simp [strRow, List.getElem?_eq_getElem hx, List.getD_eq_getElem?_getD]

theorem s_spec_l1Pick : GenSound Try.prog 106 2 GPick := by
  have hR : Rely Try.prog (ctxOf [(87, .gen 1 GBelow)]) := rely_cons b_spec_l1Below.has s_spec_l1Below (rely_nil mixed)
  refine gen_of_aw b_spec_l1Pick ?_
  rintro xs objs Q - ⟨code, i, h, l, rfl, rfl, h1, h2, h3, h4, h5, hq⟩ -
  have hil : (l.map strRow).length = l.length := by simp
  refine ⟨by simp, vc2_sound hR _ _ _ _ _ ?_⟩
  conv => whnf
  repeat' (first
    | (refine And.intro (fun hb => ?_) (fun hb => ?_)
       all_goals (try simp only [decide_eq_true_eq, decide_eq_false_iff_not, Bool.not_eq_true', Bool.not_eq_false', Bool.not_not, ne_eq, length_ints, List.length_map, beq_iff_eq, bne_iff_ne, beq_eq_false_iff_ne, bne_eq_false_iff_eq, Int.not_le, Int.not_lt, ge_iff_le, gt_iff_lt, reduceCtorEq, not_false_eq_true, not_true_eq_false, Bool.false_eq_true, Bool.true_eq_false] at hb)
       all_goals (try (exfalso; omega))
       all_goals conv => whnf)
    | (refine And.intro (live_all rfl) ?_; conv => whnf)
    | (refine And.intro rfl ?_; conv => whnf)
    | (refine ⟨_, IntWalk.i64_in _ (by omega), ?_⟩; conv => whnf)
    | (refine And.intro (okcs_all rfl) ?_; conv => whnf)
    | (refine And.intro (okvs_all rfl) ?_; conv => whnf)
    | (refine And.intro (frees_all rfl) ?_; conv => whnf)
    | (refine And.intro (bsl_all rfl) ?_; conv => whnf)
    | (refine And.intro (lens_all rfl) ?_; conv => whnf)
    | (refine And.intro (Nat.le_of_ble_eq_true rfl) ?_; conv => whnf)
    | (rw [ints_at (by omega)]; conv => whnf)
    | (rw [ints_at0 (by omega)]; conv => whnf)
    | (rw [ints_at' (by omega) (by omega)]; conv => whnf)
    | (refine And.intro (show (_ + 1) * _ ≤ _ by omega) ?_; conv => whnf)
    | (refine And.intro (show _ + 1 ≤ _ by omega) ?_; conv => whnf)
    | (refine And.intro (by first | omega | (simp only [length_ints]; omega)) ?_; conv => whnf)
    | (rw [strs_atI (by omega) (by omega)]; conv => whnf)
    | (refine ⟨GBelow_mk (by omega) (by omega) (by omega) (fun x i' h' hx0 hx1 hi' => ?_)⟩; conv => whnf)
    | fail)
  have hx : x.toNat < l.length := by omega
  have hle : (l.getD x.toNat []).length ≤ 100 := h5 _ (by rw [List.getD_eq_getElem?_getD, List.getElem?_eq_getElem hx]; exact List.getElem_mem hx)
  refine ⟨.inl rfl, ?_⟩
  conv => whnf
  refine ⟨[some 0, some 1], .str _, [some (curO code i' h'), some (.arr 1 (l.map strRow))], ⟨rfl, And.intro (And.intro (.inl rfl) (And.intro (.inl rfl) (And.intro (.inl rfl) trivial))) (And.intro (And.intro rfl rfl) trivial)⟩, .inl rfl, rfl, hq _ i' h' hle hi'⟩

def RMin (xs : List AV) (r : AV) (objs : List AObj) : Prop := ∃ a b, xs = [.int .i64 a, .int .i64 b] ∧ r = .int .i64 (if a < b then a else b) ∧ objs = []
theorem RMin_mk {a b : Int} : RMin [.int .i64 a, .int .i64 b] (.int .i64 (if a < b then a else b)) [] := ⟨a, b, rfl, rfl, rfl⟩

theorem s_spec_l1Min : PureSound Try.prog 140 RMin := by
  have hR : Rely Try.prog (ctxOf []) := rely_nil mixed
  refine pure_of_aw b_spec_l1Min ?_
  rintro xs r objs ⟨a, b, rfl, rfl, rfl⟩ -
  refine ⟨by simp, vc2_sound hR _ _ _ _ _ ?_⟩
  conv => whnf
  repeat' (first
    | (refine And.intro (fun hb => ?_) (fun hb => ?_)
       all_goals (try simp only [decide_eq_true_eq, decide_eq_false_iff_not, Bool.not_eq_true', Bool.not_eq_false', Bool.not_not, ne_eq, length_ints, List.length_map, beq_iff_eq, bne_iff_ne, beq_eq_false_iff_ne, bne_eq_false_iff_eq, Int.not_le, Int.not_lt, ge_iff_le, gt_iff_lt, reduceCtorEq, not_false_eq_true, not_true_eq_false, Bool.false_eq_true, Bool.true_eq_false] at hb)
       all_goals (try (exfalso; omega))
       all_goals conv => whnf)
    | (refine And.intro (live_all rfl) ?_; conv => whnf)
    | (refine And.intro rfl ?_; conv => whnf)
    | (refine ⟨_, IntWalk.i64_in _ (by omega), ?_⟩; conv => whnf)
    | (refine And.intro (okcs_all rfl) ?_; conv => whnf)
    | (refine And.intro (okvs_all rfl) ?_; conv => whnf)
    | (refine And.intro (frees_all rfl) ?_; conv => whnf)
    | (refine And.intro (bsl_all rfl) ?_; conv => whnf)
    | (refine And.intro (lens_all rfl) ?_; conv => whnf)
    | (refine And.intro (Nat.le_of_ble_eq_true rfl) ?_; conv => whnf)
    | (rw [ints_at (by omega)]; conv => whnf)
    | (rw [ints_at0 (by omega)]; conv => whnf)
    | (rw [ints_at' (by omega) (by omega)]; conv => whnf)
    | (refine And.intro (show (_ + 1) * _ ≤ _ by omega) ?_; conv => whnf)
    | (refine And.intro (show _ + 1 ≤ _ by omega) ?_; conv => whnf)
    | (refine And.intro (by first | omega | (simp only [length_ints]; omega)) ?_; conv => whnf)
    | fail)
  · refine ⟨.inl rfl, ?_⟩
    conv => whnf
    refine ⟨[], ⟨rfl, trivial⟩, ?_, rfl, rfl⟩
    conv => whnf
    left
    conv => lhs; whnf
    exact congrArg (AV.int .i64) (by rw [if_pos (by omega)])
  · refine ⟨.inl rfl, ?_⟩
    conv => whnf
    refine ⟨[], ⟨rfl, trivial⟩, ?_, rfl, rfl⟩
    conv => whnf
    left
    conv => lhs; whnf
    exact congrArg (AV.int .i64) (by rw [if_neg (by omega)])

def GDent : GFun := fun xs objs Q => ∃ (code : List UInt8) (i : Nat) (h : Int) (s : List UInt8) (l : List (List UInt8)), xs = [.ptr 0 0 0, .str s, .ref 1 0 l.length] ∧ objs = [curO code i h, .arr 1 (l.map strRow)] ∧ i ≤ code.length ∧ code.length ≤ 1048576 ∧ s.length ≤ 1000 ∧ 0 < l.length ∧ l.length ≤ 1000 ∧ (∀ p ∈ l, p.length ≤ 100) ∧
  ∀ (t : List UInt8) (i' : Nat) (h' : Int), t.length ≤ 2100 → i' ≤ code.length → Q (.str t) [some (curO code i' h'), some (.arr 1 (l.map strRow))]
theorem GDent_mk {code : List UInt8} {i : Nat} {h : Int} {s : List UInt8} {l : List (List UInt8)} {Q : AV → List (Option AObj) → Prop} (h1 : i ≤ code.length) (h2 : code.length ≤ 1048576) (hs : s.length ≤ 1000) (h3 : 0 < l.length) (h4 : l.length ≤ 1000) (h5 : ∀ p ∈ l, p.length ≤ 100)
    (hq : ∀ (t : List UInt8) (i' : Nat) (h' : Int), t.length ≤ 2100 → i' ≤ code.length → Q (.str t) [some (curO code i' h'), some (.arr 1 (l.map strRow))]) : GDent [.ptr 0 0 0, .str s, .ref 1 0 l.length] [curO code i h, .arr 1 (l.map strRow)] Q :=
  ⟨code, i, h, s, l, rfl, rfl, h1, h2, hs, h3, h4, h5, hq⟩

theorem sub_le {α : Type} (s : List α) (a b : Nat) : (sub s a b).length ≤ s.length := by
  unfold sub
  rw [List.length_take, List.length_drop]
  omega

theorem cat_le {s t : List UInt8} (hs : s.length ≤ 1000) (ht : t.length ≤ 100) (a b : Nat) : (sub s a b ++ t).length ≤ 1100 := by
  have := sub_le s a b
  rw [List.length_append]
  omega

theorem cat2_le {s t : List UInt8} (hs : s.length ≤ 1000) (ht : t.length ≤ 100) (a b c d : Nat) : (sub s a b ++ t ++ sub s c d).length ≤ 2100 := by
  have := cat_le hs ht a b
  have := sub_le s c d
  rw [List.length_append]
  omega

set_option maxHeartbeats 4000000 in
theorem s_spec_l2Dent : GenSound Try.prog 86 2 GDent := by
  have hR : Rely Try.prog (ctxOf [(87, .gen 1 GBelow), (106, .gen 2 GPick), (140, .pure RMin)]) := rely_cons b_spec_l1Below.has s_spec_l1Below (rely_cons b_spec_l1Pick.has s_spec_l1Pick (rely_cons b_spec_l1Min.has s_spec_l1Min (rely_nil mixed)))
  have hV : CtxNV (ctxOf [(87, .gen 1 GBelow), (106, .gen 2 GPick), (140, .pure RMin)]) := nv_gen GBelow_nv (nv_gen GPick_nv (nv_pure nvNil))
  refine gen_of_aw b_spec_l2Dent ?_
  rintro xs objs Q - ⟨code, i, h, s, l, rfl, rfl, h1, h2, hs, h3, h4, h5, hq⟩ -
  refine ⟨by simp, vc3_sound hR hV _ _ _ _ _ ?_⟩
  have hsl := sub_le s
  conv => whnf
  repeat' (first
    | (refine And.intro (fun hb => ?_) (fun hb => ?_)
       all_goals (try simp only [decide_eq_true_eq, decide_eq_false_iff_not, Bool.not_eq_true', Bool.not_eq_false', Bool.not_not, ne_eq, length_ints, List.length_map, beq_iff_eq, bne_iff_ne, beq_eq_false_iff_ne, bne_eq_false_iff_eq, Int.not_le, Int.not_lt, ge_iff_le, gt_iff_lt, reduceCtorEq, not_false_eq_true, not_true_eq_false, Bool.false_eq_true, Bool.true_eq_false] at hb)
       all_goals (try (exfalso; omega))
       all_goals conv => whnf)
    | (refine And.intro (live_all rfl) ?_; conv => whnf)
    | (refine And.intro rfl ?_; conv => whnf)
    | (refine ⟨_, IntWalk.i64_in _ (by omega), ?_⟩; conv => whnf)
    | (refine And.intro (okcs_all rfl) ?_; conv => whnf)
    | (refine And.intro (okvs_all rfl) ?_; conv => whnf)
    | (refine And.intro (frees_all rfl) ?_; conv => whnf)
    | (refine And.intro (bsl_all rfl) ?_; conv => whnf)
    | (refine And.intro (lens_all rfl) ?_; conv => whnf)
    | (refine And.intro (Nat.le_of_ble_eq_true rfl) ?_; conv => whnf)
    | (rw [ints_at (by omega)]; conv => whnf)
    | (rw [ints_at0 (by omega)]; conv => whnf)
    | (rw [ints_at' (by omega) (by omega)]; conv => whnf)
    | (refine And.intro (show (_ + 1) * _ ≤ _ by omega) ?_; conv => whnf)
    | (refine And.intro (show _ + 1 ≤ _ by omega) ?_; conv => whnf)
    | (refine And.intro (by first | omega | (simp only [length_ints]; omega)) ?_; conv => whnf)
    | (refine ⟨GBelow_mk (by omega) (by omega) (by omega) (fun x i' h' hx0 hx1 hi' => ?_)⟩; conv => whnf)
    | (refine ⟨GPick_mk (by omega) (by omega) h3 h4 h5 (fun t i' h' ht hi' => ?_)⟩; conv => whnf)
    | (refine ⟨_, _, RMin_mk, ?_⟩; conv => whnf)
    | (refine And.intro (Nat.le_trans (Nat.add_le_add (Nat.le_trans (sub_le _ _ _) hs) ht) (by omega)) ?_; conv => whnf)
    | (refine And.intro (Nat.le_trans (Nat.add_le_add (cat_le hs ht _ _) (Nat.le_trans (sub_le _ _ _) hs)) (by omega)) ?_; conv => whnf)
    | fail)
  · refine ⟨.inl rfl, ?_⟩
    conv => whnf
    refine ⟨[some 0, some 1], .str _, [some (curO code i' h'), some (.arr 1 (l.map strRow))], ⟨rfl, And.intro (And.intro (.inl rfl) (And.intro (.inl rfl) (And.intro (.inl rfl) trivial))) (And.intro (And.intro rfl rfl) trivial)⟩, .inl rfl, rfl, hq _ i' h' (Nat.le_trans (sub_le s _ _) (by omega)) hi'⟩
  all_goals
    refine ⟨.inl rfl, ?_⟩
    conv => whnf
    refine ⟨[some 0, some 1], .str _, [some (curO code i' h'), some (.arr 1 (l.map strRow))], ⟨rfl, And.intro (And.intro (.inl rfl) (And.intro (.inl rfl) (And.intro (.inl rfl) trivial))) (And.intro (And.intro rfl rfl) trivial)⟩, .inl rfl, rfl, hq _ i' h' (cat2_le hs ht _ _ _ _) hi'⟩

def GDrawRead : GFun := fun xs objs Q => ∃ (code : List UInt8), xs = [.val (code.map byteRow)] ∧ objs = [] ∧ code.length ≤ 1048576 ∧ ∀ (t : List UInt8), t.length ≤ 3000 → Q (.str t) []
theorem GDrawRead_mk {code : List UInt8} {Q : AV → List (Option AObj) → Prop} (h2 : code.length ≤ 1048576) (hq : ∀ (t : List UInt8), t.length ≤ 3000 → Q (.str t) []) : GDrawRead [.val (code.map byteRow)] [] Q := ⟨code, rfl, rfl, h2, hq⟩

theorem wordText_le (s l : List Int) : (wordText s l).length ≤ 81 := by
  unfold wordText
  split
  · rename_i h
    obtain ⟨k1, _, k2, _⟩ := wordOk_parts h
    simp [digitsB]; omega
  · simp

abbrev readL (a : List UInt8 × Nat × Int) : List (Nat × AV) := [(3, .ptr 0 0 0), (4, .str a.1)]
abbrev readOO (code : List UInt8) (a : List UInt8 × Nat × Int) : List (Option AObj) := [some (curO code a.2.1 a.2.2)]

set_option maxHeartbeats 4000000 in
theorem s_spec_DrawWordRead : GenSound Try.prog 31 0 GDrawRead := by
  have hR : Rely Try.prog (ctxOf [(82, .gen 0 GNew), (84, .gen 1 GDrawRight), (14, .pure RWordText), (85, .gen 1 GOnce), (86, .gen 2 GDent), (87, .gen 1 GBelow)]) :=
    rely_cons b_spec_l1New.has s_spec_l1New (rely_cons b_spec_l3DrawRight.has s_spec_l3DrawRight (rely_cons b_spec_WordText.has s_spec_WordText (rely_cons b_spec_l1Once.has s_spec_l1Once (rely_cons b_spec_l2Dent.has s_spec_l2Dent (rely_cons b_spec_l1Below.has s_spec_l1Below (rely_nil mixed))))))
  refine gen_of_aw b_spec_DrawWordRead ?_
  rintro xs objs Q - ⟨code, rfl, rfl, h2, hq⟩ -
  refine ⟨by simp, ?_⟩
  refine Aw.meet (α := Unit) (fun _ => True) (fun _ => [(0, .val (code.map byteRow))]) (fun _ => []) ?_ ?_
  · refine vc2_sound hR _ _ _ _ _ ?_
    conv => whnf
    repeat' (first
      | (refine And.intro (fun hb => ?_) (fun hb => ?_)
         all_goals (try simp only [decide_eq_true_eq, decide_eq_false_iff_not, Bool.not_eq_true', Bool.not_eq_false', Bool.not_not, ne_eq, length_ints, List.length_map, beq_iff_eq, bne_iff_ne, beq_eq_false_iff_ne, bne_eq_false_iff_eq, Int.not_le, Int.not_lt, ge_iff_le, gt_iff_lt, reduceCtorEq, not_false_eq_true, not_true_eq_false, Bool.false_eq_true, Bool.true_eq_false] at hb)
         all_goals (try (exfalso; omega))
         all_goals conv => whnf)
      | (refine And.intro (live_all rfl) ?_; conv => whnf)
      | (refine And.intro rfl ?_; conv => whnf)
      | (refine ⟨_, IntWalk.i64_in _ (by omega), ?_⟩; conv => whnf)
      | (refine And.intro (okcs_all rfl) ?_; conv => whnf)
      | (refine And.intro (okvs_all rfl) ?_; conv => whnf)
      | (refine And.intro (frees_all rfl) ?_; conv => whnf)
      | (refine And.intro (bsl_all rfl) ?_; conv => whnf)
      | (refine And.intro (lens_all rfl) ?_; conv => whnf)
      | (refine And.intro (Nat.le_of_ble_eq_true rfl) ?_; conv => whnf)
      | (rw [ints_at (by omega)]; conv => whnf)
      | (rw [ints_at0 (by omega)]; conv => whnf)
      | (rw [ints_at' (by omega) (by omega)]; conv => whnf)
      | (refine And.intro (show (_ + 1) * _ ≤ _ by omega) ?_; conv => whnf)
      | (refine And.intro (show _ + 1 ≤ _ by omega) ?_; conv => whnf)
      | (refine And.intro (by first | omega | (simp only [length_ints]; omega)) ?_; conv => whnf)
      | fail)
    refine ⟨(), trivial, [], rfl, rfl, ?_, ?_⟩
    · repeat' (first | exact trivial | exact rfl | exact Or.inl rfl | refine And.intro ?_ ?_)
    · repeat' (first
        | exact trivial
        | refine ⟨?_, ?_⟩
        | fail)
      all_goals first
        | with_reducible rfl
        | (conv => whnf
           try left
           conv => lhs; whnf
           first
             | rfl
             | exact congrArg (AV.int .i64) (by omega)
             | skip)
  rintro _ -
  refine Aw.meet (α := Int) (fun _ => True) (fun _ => [(3, .ptr 0 0 0)]) (fun h => [some (curO code 0 h)]) ?_ ?_
  · refine vc2_sound hR _ _ _ _ _ ?_
    conv => whnf
    repeat' (first
      | (refine And.intro (fun hb => ?_) (fun hb => ?_)
         all_goals (try simp only [decide_eq_true_eq, decide_eq_false_iff_not, Bool.not_eq_true', Bool.not_eq_false', Bool.not_not, ne_eq, length_ints, List.length_map, beq_iff_eq, bne_iff_ne, beq_eq_false_iff_ne, bne_eq_false_iff_eq, Int.not_le, Int.not_lt, ge_iff_le, gt_iff_lt, reduceCtorEq, not_false_eq_true, not_true_eq_false, Bool.false_eq_true, Bool.true_eq_false] at hb)
         all_goals (try (exfalso; omega))
         all_goals conv => whnf)
      | (refine And.intro (live_all rfl) ?_; conv => whnf)
      | (refine And.intro rfl ?_; conv => whnf)
      | (refine ⟨_, IntWalk.i64_in _ (by omega), ?_⟩; conv => whnf)
      | (refine And.intro (okcs_all rfl) ?_; conv => whnf)
      | (refine And.intro (okvs_all rfl) ?_; conv => whnf)
      | (refine And.intro (frees_all rfl) ?_; conv => whnf)
      | (refine And.intro (bsl_all rfl) ?_; conv => whnf)
      | (refine And.intro (lens_all rfl) ?_; conv => whnf)
      | (refine And.intro (Nat.le_of_ble_eq_true rfl) ?_; conv => whnf)
      | (rw [ints_at (by omega)]; conv => whnf)
      | (rw [ints_at0 (by omega)]; conv => whnf)
      | (rw [ints_at' (by omega) (by omega)]; conv => whnf)
      | (refine And.intro (show (_ + 1) * _ ≤ _ by omega) ?_; conv => whnf)
      | (refine And.intro (show _ + 1 ≤ _ by omega) ?_; conv => whnf)
      | (refine And.intro (by first | omega | (simp only [length_ints]; omega)) ?_; conv => whnf)
      | (refine ⟨GNew_mk h2 (fun h => ?_)⟩; conv => whnf)
      | fail)
    refine ⟨h, trivial, [some 0], rfl, rfl, And.intro (And.intro (.inl rfl) (And.intro (.inl rfl) (And.intro (.inl rfl) trivial))) trivial, ?_⟩
    repeat' (first
      | exact trivial
      | refine ⟨?_, ?_⟩
      | fail)
    all_goals first
      | with_reducible rfl
      | (conv => whnf
         try left
         conv => lhs; whnf
         first
           | rfl
           | exact congrArg (AV.int .i64) (by omega)
           | skip)
  rintro h0 -
  refine Aw.meet (α := List UInt8 × Nat × Int) (fun a => a.1.length ≤ 81 ∧ a.2.1 ≤ code.length) readL (readOO code) ?_ ?_
  · refine vc2_sound hR _ _ _ _ _ ?_
    conv => whnf
    repeat' (first
      | (refine And.intro (fun hb => ?_) (fun hb => ?_)
         all_goals (try simp only [decide_eq_true_eq, decide_eq_false_iff_not, Bool.not_eq_true', Bool.not_eq_false', Bool.not_not, ne_eq, length_ints, List.length_map, beq_iff_eq, bne_iff_ne, beq_eq_false_iff_ne, bne_eq_false_iff_eq, Int.not_le, Int.not_lt, ge_iff_le, gt_iff_lt, reduceCtorEq, not_false_eq_true, not_true_eq_false, Bool.false_eq_true, Bool.true_eq_false] at hb)
         all_goals (try (exfalso; omega))
         all_goals conv => whnf)
      | (refine And.intro (live_all rfl) ?_; conv => whnf)
      | (refine And.intro rfl ?_; conv => whnf)
      | (refine ⟨_, IntWalk.i64_in _ (by omega), ?_⟩; conv => whnf)
      | (refine And.intro (okcs_all rfl) ?_; conv => whnf)
      | (refine And.intro (okvs_all rfl) ?_; conv => whnf)
      | (refine And.intro (frees_all rfl) ?_; conv => whnf)
      | (refine And.intro (bsl_all rfl) ?_; conv => whnf)
      | (refine And.intro (lens_all rfl) ?_; conv => whnf)
      | (refine And.intro (Nat.le_of_ble_eq_true rfl) ?_; conv => whnf)
      | (rw [ints_at (by omega)]; conv => whnf)
      | (rw [ints_at0 (by omega)]; conv => whnf)
      | (rw [ints_at' (by omega) (by omega)]; conv => whnf)
      | (refine And.intro (show (_ + 1) * _ ≤ _ by omega) ?_; conv => whnf)
      | (refine And.intro (show _ + 1 ≤ _ by omega) ?_; conv => whnf)
      | (refine And.intro (by first | omega | (simp only [length_ints]; omega)) ?_; conv => whnf)
      | (refine ⟨GDrawRight_mk (by omega) (by omega) (by omega) (fun s l i' h' hs hl hi' => ?_)⟩; conv => whnf)
      | fail)
    have ht := wordText_le s l
    refine ⟨_, _, RWordText_eq (s := s) (l := l) (by repeat' (first | exact rfl | refine args_cons ?_ ?_ | refine snap_agg ?_ | refine cells_cons ?_ ?_ | exact snap1_all rfl (by first | (simp only [length_ints]; done) | simp [ints, marks]) | exact snap_all rfl (by first | (simp only [length_ints]; done) | simp [ints, marks]) | exact snap1_all2 rfl (by first | (simp only [length_ints]; done) | simp [ints, marks]) | fail)), ?_⟩
    conv => whnf
    repeat' (first
      | (refine And.intro (fun hb => ?_) (fun hb => ?_)
         all_goals (try simp only [decide_eq_true_eq, decide_eq_false_iff_not, Bool.not_eq_true', Bool.not_eq_false', Bool.not_not, ne_eq, length_ints, List.length_map, beq_iff_eq, bne_iff_ne, beq_eq_false_iff_ne, bne_eq_false_iff_eq, Int.not_le, Int.not_lt, ge_iff_le, gt_iff_lt, reduceCtorEq, not_false_eq_true, not_true_eq_false, Bool.false_eq_true, Bool.true_eq_false] at hb)
         all_goals (try (exfalso; omega))
         all_goals conv => whnf)
      | (refine And.intro (live_all rfl) ?_; conv => whnf)
      | (refine And.intro rfl ?_; conv => whnf)
      | (refine ⟨_, IntWalk.i64_in _ (by omega), ?_⟩; conv => whnf)
      | (refine And.intro (okcs_all rfl) ?_; conv => whnf)
      | (refine And.intro (okvs_all rfl) ?_; conv => whnf)
      | (refine And.intro (frees_all rfl) ?_; conv => whnf)
      | (refine And.intro (bsl_all rfl) ?_; conv => whnf)
      | (refine And.intro (lens_all rfl) ?_; conv => whnf)
      | (refine And.intro (Nat.le_of_ble_eq_true rfl) ?_; conv => whnf)
      | (rw [ints_at (by omega)]; conv => whnf)
      | (rw [ints_at0 (by omega)]; conv => whnf)
      | (rw [ints_at' (by omega) (by omega)]; conv => whnf)
      | (refine And.intro (show (_ + 1) * _ ≤ _ by omega) ?_; conv => whnf)
      | (refine And.intro (show _ + 1 ≤ _ by omega) ?_; conv => whnf)
      | (refine And.intro (by first | omega | (simp only [length_ints]; omega)) ?_; conv => whnf)
      | fail)
    refine ⟨(wordText s l, i', h'), ⟨ht, hi'⟩, [some 0], rfl, rfl, And.intro (And.intro (.inl rfl) (And.intro (.inl rfl) (And.intro (.inl rfl) trivial))) trivial, ?_⟩
    repeat' (first
      | exact trivial
      | refine ⟨?_, ?_⟩
      | fail)
    all_goals first
      | with_reducible rfl
      | (conv => whnf
         try left
         conv => lhs; whnf
         first
           | rfl
           | exact congrArg (AV.int .i64) (by omega)
           | skip)
  rintro ⟨t, i1, h1⟩ ⟨ht, hi1⟩
  dsimp only at ht hi1
  refine Aw.meet (α := List UInt8 × Nat × Int) (fun a => a.1.length ≤ 2100 ∧ a.2.1 ≤ code.length) readL (readOO code) ?_ ?_
  · refine vc2_sound hR _ _ _ _ _ ?_
    conv => whnf
    repeat' (first
      | (refine And.intro (fun hb => ?_) (fun hb => ?_)
         all_goals (try simp only [decide_eq_true_eq, decide_eq_false_iff_not, Bool.not_eq_true', Bool.not_eq_false', Bool.not_not, ne_eq, length_ints, List.length_map, beq_iff_eq, bne_iff_ne, beq_eq_false_iff_ne, bne_eq_false_iff_eq, Int.not_le, Int.not_lt, ge_iff_le, gt_iff_lt, reduceCtorEq, not_false_eq_true, not_true_eq_false, Bool.false_eq_true, Bool.true_eq_false] at hb)
         all_goals (try (exfalso; omega))
         all_goals conv => whnf)
      | (refine And.intro (live_all rfl) ?_; conv => whnf)
      | (refine And.intro rfl ?_; conv => whnf)
      | (refine ⟨_, IntWalk.i64_in _ (by omega), ?_⟩; conv => whnf)
      | (refine And.intro (okcs_all rfl) ?_; conv => whnf)
      | (refine And.intro (okvs_all rfl) ?_; conv => whnf)
      | (refine And.intro (frees_all rfl) ?_; conv => whnf)
      | (refine And.intro (bsl_all rfl) ?_; conv => whnf)
      | (refine And.intro (lens_all rfl) ?_; conv => whnf)
      | (refine And.intro (Nat.le_of_ble_eq_true rfl) ?_; conv => whnf)
      | (rw [ints_at (by omega)]; conv => whnf)
      | (rw [ints_at0 (by omega)]; conv => whnf)
      | (rw [ints_at' (by omega) (by omega)]; conv => whnf)
      | (refine And.intro (show (_ + 1) * _ ≤ _ by omega) ?_; conv => whnf)
      | (refine And.intro (show _ + 1 ≤ _ by omega) ?_; conv => whnf)
      | (refine And.intro (by first | omega | (simp only [length_ints]; omega)) ?_; conv => whnf)
      | (refine ⟨GOnce_mk (by omega) (by omega) (by omega) (fun b i' h' hi' => ?_)⟩; conv => whnf)
      | (refine ⟨GDent_mk (s := t) (l := [[48], [59], [56], [120], [55]]) (by omega) (by omega) (by omega) (by simp) (by simp) (by simp) (fun t i' h' ht hi' => ?_)⟩; conv => whnf)
      | fail)
    · refine ⟨(t, i', h'), ⟨by dsimp only; omega, hi'⟩, [some 0], rfl, rfl, And.intro (And.intro (.inl rfl) (And.intro (.inl rfl) (And.intro (.inl rfl) trivial))) trivial, ?_⟩
      repeat' (first
        | exact trivial
        | refine ⟨?_, ?_⟩
        | fail)
      all_goals first
        | with_reducible rfl
        | (conv => whnf
           try left
           conv => lhs; whnf
           first
             | rfl
             | exact congrArg (AV.int .i64) (by omega)
             | skip)
    · refine ⟨(t, i', h'), ⟨by dsimp only; omega, hi'⟩, [some 0], rfl, rfl, And.intro (And.intro (.inl rfl) (And.intro (.inl rfl) (And.intro (.inl rfl) trivial))) trivial, ?_⟩
      repeat' (first
        | exact trivial
        | refine ⟨?_, ?_⟩
        | fail)
      all_goals first
        | with_reducible rfl
        | (conv => whnf
           try left
           conv => lhs; whnf
           first
             | rfl
             | exact congrArg (AV.int .i64) (by omega)
             | skip)
  clear ht hi1 t i1 h1
  rintro ⟨t, i1, h1⟩ ⟨ht, hi1⟩
  dsimp only at ht hi1
  refine Aw.meet (α := List UInt8 × Nat × Int) (fun a => a.1.length ≤ 2200 ∧ a.2.1 ≤ code.length) readL (readOO code) ?_ ?_
  · refine vc2_sound hR _ _ _ _ _ ?_
    conv => whnf
    repeat' (first
      | (refine And.intro (fun hb => ?_) (fun hb => ?_)
         all_goals (try simp only [decide_eq_true_eq, decide_eq_false_iff_not, Bool.not_eq_true', Bool.not_eq_false', Bool.not_not, ne_eq, length_ints, List.length_map, beq_iff_eq, bne_iff_ne, beq_eq_false_iff_ne, bne_eq_false_iff_eq, Int.not_le, Int.not_lt, ge_iff_le, gt_iff_lt, reduceCtorEq, not_false_eq_true, not_true_eq_false, Bool.false_eq_true, Bool.true_eq_false] at hb)
         all_goals (try (exfalso; omega))
         all_goals conv => whnf)
      | (refine And.intro (live_all rfl) ?_; conv => whnf)
      | (refine And.intro rfl ?_; conv => whnf)
      | (refine ⟨_, IntWalk.i64_in _ (by omega), ?_⟩; conv => whnf)
      | (refine And.intro (okcs_all rfl) ?_; conv => whnf)
      | (refine And.intro (okvs_all rfl) ?_; conv => whnf)
      | (refine And.intro (frees_all rfl) ?_; conv => whnf)
      | (refine And.intro (bsl_all rfl) ?_; conv => whnf)
      | (refine And.intro (lens_all rfl) ?_; conv => whnf)
      | (refine And.intro (Nat.le_of_ble_eq_true rfl) ?_; conv => whnf)
      | (rw [ints_at (by omega)]; conv => whnf)
      | (rw [ints_at0 (by omega)]; conv => whnf)
      | (rw [ints_at' (by omega) (by omega)]; conv => whnf)
      | (refine And.intro (show (_ + 1) * _ ≤ _ by omega) ?_; conv => whnf)
      | (refine And.intro (show _ + 1 ≤ _ by omega) ?_; conv => whnf)
      | (refine And.intro (by first | omega | (simp only [length_ints]; omega)) ?_; conv => whnf)
      | (refine ⟨GOnce_mk (by omega) (by omega) (by omega) (fun b i' h' hi' => ?_)⟩; conv => whnf)
      | fail)
    · refine Lp.intro (α := List UInt8 × Nat × Int) (fun a => a.1.length ≤ 2200 ∧ a.2.1 ≤ code.length) (fun a => 83 - a.1.length) readL (readOO code) ?_ ?_
      · refine ⟨(t, i', h'), ⟨by dsimp only; omega, hi'⟩, [some 0], rfl, rfl, And.intro (And.intro (.inl rfl) (And.intro (.inl rfl) (And.intro (.inl rfl) trivial))) trivial, ?_⟩
        repeat' (first
          | exact trivial
          | refine ⟨?_, ?_⟩
          | fail)
        all_goals first
          | with_reducible rfl
          | (conv => whnf
             try left
             conv => lhs; whnf
             first
               | rfl
               | exact congrArg (AV.int .i64) (by omega)
               | skip)
      · clear hi' i' h' hb b
        rintro ⟨t, i2, h2'⟩ ⟨ht, hi2⟩
        dsimp only at ht hi2 ⊢
        refine vc2_sound hR _ _ _ _ _ ?_
        conv => whnf
        repeat' (first
          | (refine And.intro (fun hb => ?_) (fun hb => ?_)
             all_goals (try simp only [decide_eq_true_eq, decide_eq_false_iff_not, Bool.not_eq_true', Bool.not_eq_false', Bool.not_not, ne_eq, length_ints, List.length_map, beq_iff_eq, bne_iff_ne, beq_eq_false_iff_ne, bne_eq_false_iff_eq, Int.not_le, Int.not_lt, ge_iff_le, gt_iff_lt, reduceCtorEq, not_false_eq_true, not_true_eq_false, Bool.false_eq_true, Bool.true_eq_false] at hb)
             all_goals (try (exfalso; omega))
             all_goals conv => whnf)
          | (refine And.intro (live_all rfl) ?_; conv => whnf)
          | (refine And.intro rfl ?_; conv => whnf)
          | (refine ⟨_, IntWalk.i64_in _ (by omega), ?_⟩; conv => whnf)
          | (refine And.intro (okcs_all rfl) ?_; conv => whnf)
          | (refine And.intro (okvs_all rfl) ?_; conv => whnf)
          | (refine And.intro (frees_all rfl) ?_; conv => whnf)
          | (refine And.intro (bsl_all rfl) ?_; conv => whnf)
          | (refine And.intro (lens_all rfl) ?_; conv => whnf)
          | (refine And.intro (Nat.le_of_ble_eq_true rfl) ?_; conv => whnf)
          | (rw [ints_at (by omega)]; conv => whnf)
          | (rw [ints_at0 (by omega)]; conv => whnf)
          | (rw [ints_at' (by omega) (by omega)]; conv => whnf)
          | (refine And.intro (show (_ + 1) * _ ≤ _ by omega) ?_; conv => whnf)
          | (refine And.intro (show _ + 1 ≤ _ by omega) ?_; conv => whnf)
          | (refine And.intro (by first | omega | (simp only [length_ints]; omega)) ?_; conv => whnf)
          | (refine And.intro (show t.length + 1 ≤ 9223372036854775807 by omega) ?_; conv => whnf)
          | (refine ⟨GBelow_mk (by omega) (by omega) (by omega) (fun x i' h' hx0 hx1 hi' => ?_)⟩; conv => whnf)
          | fail)
        · refine ⟨(t ++ [48], i', h'), ⟨by simp; omega, hi'⟩, by simp; omega, [some 0], rfl, rfl, And.intro (And.intro (.inl rfl) (And.intro (.inl rfl) (And.intro (.inl rfl) trivial))) trivial, ?_⟩
          repeat' (first
            | exact trivial
            | refine ⟨?_, ?_⟩
            | fail)
          all_goals first
            | with_reducible rfl
            | (conv => whnf
               try left
               conv => lhs; whnf
               first
                 | rfl
                 | exact congrArg (AV.int .i64) (by omega)
                 | skip)
        · refine ⟨(t, i', h'), ⟨by dsimp only; omega, hi'⟩, [some 0], rfl, rfl, And.intro (And.intro (.inl rfl) (And.intro (.inl rfl) (And.intro (.inl rfl) trivial))) trivial, ?_⟩
          repeat' (first
            | exact trivial
            | refine ⟨?_, ?_⟩
            | fail)
          all_goals first
            | with_reducible rfl
            | (conv => whnf
               try left
               conv => lhs; whnf
               first
                 | rfl
                 | exact congrArg (AV.int .i64) (by omega)
                 | skip)
    · refine ⟨(t, i', h'), ⟨by dsimp only; omega, hi'⟩, [some 0], rfl, rfl, And.intro (And.intro (.inl rfl) (And.intro (.inl rfl) (And.intro (.inl rfl) trivial))) trivial, ?_⟩
      repeat' (first
        | exact trivial
        | refine ⟨?_, ?_⟩
        | fail)
      all_goals first
        | with_reducible rfl
        | (conv => whnf
           try left
           conv => lhs; whnf
           first
             | rfl
             | exact congrArg (AV.int .i64) (by omega)
             | skip)
  clear ht hi1 t i1 h1
  rintro ⟨t, i1, h1⟩ ⟨ht, hi1⟩
  dsimp only at ht hi1
  refine vc2_sound hR _ _ _ _ _ ?_
  conv => whnf
  repeat' (first
    | (refine And.intro (fun hb => ?_) (fun hb => ?_)
       all_goals (try simp only [decide_eq_true_eq, decide_eq_false_iff_not, Bool.not_eq_true', Bool.not_eq_false', Bool.not_not, ne_eq, length_ints, List.length_map, beq_iff_eq, bne_iff_ne, beq_eq_false_iff_ne, bne_eq_false_iff_eq, Int.not_le, Int.not_lt, ge_iff_le, gt_iff_lt, reduceCtorEq, not_false_eq_true, not_true_eq_false, Bool.false_eq_true, Bool.true_eq_false] at hb)
       all_goals (try (exfalso; omega))
       all_goals conv => whnf)
    | (refine And.intro (live_all rfl) ?_; conv => whnf)
    | (refine And.intro rfl ?_; conv => whnf)
    | (refine ⟨_, IntWalk.i64_in _ (by omega), ?_⟩; conv => whnf)
    | (refine And.intro (okcs_all rfl) ?_; conv => whnf)
    | (refine And.intro (okvs_all rfl) ?_; conv => whnf)
    | (refine And.intro (frees_all rfl) ?_; conv => whnf)
    | (refine And.intro (bsl_all rfl) ?_; conv => whnf)
    | (refine And.intro (lens_all rfl) ?_; conv => whnf)
    | (refine And.intro (Nat.le_of_ble_eq_true rfl) ?_; conv => whnf)
    | (rw [ints_at (by omega)]; conv => whnf)
    | (rw [ints_at0 (by omega)]; conv => whnf)
    | (rw [ints_at' (by omega) (by omega)]; conv => whnf)
    | (refine And.intro (show (_ + 1) * _ ≤ _ by omega) ?_; conv => whnf)
    | (refine And.intro (show _ + 1 ≤ _ by omega) ?_; conv => whnf)
    | (refine And.intro (by first | omega | (simp only [length_ints]; omega)) ?_; conv => whnf)
    | fail)
  refine ⟨.inl rfl, ?_⟩
  conv => whnf
  exact ⟨[], .str t, [], ⟨rfl, trivial⟩, .inl rfl, rfl, hq t (by omega)⟩

end Go.Proofs.Ytpfbkblgefddlaa.Ct
