/- The law that the program's ShelfGet says what the reference's says. -/
import Derived.Test.YtpfbkblgefddlaaCtShelf3
import Derived.Test.YtpfbkblgefddlaaCtLawShelf
namespace Go.Proofs.Ytpfbkblgefddlaa.Ct
set_option linter.unusedSimpArgs false
set_option linter.unusedVariables false
open Go Go.Proofs Go.Proofs.Ytpfbkblgefddlaa.Av

def c_laws_FnExactShelfGet : ICode := (.seq (.reg [⟨(some 4), .mv, [(.c (.bool false))], none⟩]) (.seq (.reg [⟨(some 5), .mv, [(.c (.int .i64 1048576))], none⟩]) (.seq (.reg [⟨(some 16), .mv, [(.t 0)], none⟩, ⟨(some 17), .mv, [(.t 5)], none⟩, ⟨(some 18), (.call 18), [(.t 16), (.t 17)], none⟩, ⟨(some 5), .mv, [(.t 18)], none⟩]) (.seq (.seq (.reg [⟨(some 19), .mv, [(.t 5)], none⟩, ⟨(some 20), (.bin .lss), [(.t 19), (.c (.int .i64 0))], none⟩]) (.cond (.t 20) (.seq (.reg [⟨(some 4), .mv, [(.c (.bool true))], none⟩]) .ret) .skip)) (.seq (.reg [⟨(some 22), .mv, [(.t 0)], none⟩, ⟨(some 23), (.call 20), [(.t 22)], none⟩, ⟨(some 24), .mv, [(.t 1)], none⟩, ⟨(some 25), (.call 32), [(.t 23), (.t 24)], none⟩, ⟨(some 21), .mv, [(.t 25)], none⟩, ⟨(some 26), (.ext 0), [(.t 21)], none⟩, ⟨(some 27), (.ext 1), [(.t 21)], none⟩, ⟨(some 6), (.alc [(.int .i64 0), (.int .i64 0), (.int .i64 0), .snil]), [], none⟩, ⟨none, (.st 4), [(.t 6), (.t 26)], none⟩, ⟨(some 7), .mv, [(.t 27)], none⟩]) (.seq (.reg [⟨(some 28), .mv, [(.t 0)], none⟩, ⟨(some 29), (.call 20), [(.t 28)], none⟩, ⟨(some 8), .mv, [(.t 29)], none⟩]) (.seq (.reg [⟨(some 31), .mv, [(.t 8)], none⟩, ⟨(some 32), .mv, [(.t 1)], none⟩, ⟨(some 33), (.call 33), [(.t 31), (.t 32)], none⟩, ⟨(some 30), .mv, [(.t 33)], none⟩, ⟨(some 34), (.ext 0), [(.t 30)], none⟩, ⟨(some 35), (.ext 1), [(.t 30)], none⟩, ⟨(some 9), (.alc [(.int .i64 0), (.int .i64 0), (.int .i64 0), .snil]), [], none⟩, ⟨none, (.st 4), [(.t 9), (.t 34)], none⟩, ⟨(some 10), .mv, [(.t 35)], none⟩]) (.seq (.seq (.reg [⟨(some 36), (.ldn 4), [(.t 9)], none⟩, ⟨(some 37), (.ldn 4), [(.t 6)], none⟩, ⟨(some 38), (.call 34), [(.t 36), (.t 37)], none⟩, ⟨(some 39), .not, [(.t 38)], none⟩, ⟨(some 40), .mv, [(.t 39)], none⟩, ⟨(some 41), .mv, [(.t 10)], (some (40, false))⟩, ⟨(some 42), .mv, [(.t 7)], (some (40, false))⟩, ⟨(some 43), (.beq true), [(.t 41), (.t 42)], (some (40, false))⟩, ⟨(some 44), .pick, [(.t 40), (.c (.bool true)), (.t 43)], none⟩]) (.cond (.t 44) (.seq (.reg [⟨(some 4), .mv, [(.c (.bool false))], none⟩]) .ret) .skip)) (.seq (.seq (.reg [⟨(some 45), .mv, [(.t 8)], none⟩, ⟨(some 46), .mv, [(.t 0)], none⟩, ⟨(some 47), (.call 20), [(.t 46)], none⟩, ⟨(some 48), (.call 22), [(.t 45), (.t 47)], none⟩, ⟨(some 49), .not, [(.t 48)], none⟩]) (.cond (.t 49) (.seq (.reg [⟨(some 4), .mv, [(.c (.bool false))], none⟩]) .ret) .skip)) (.seq (.reg [⟨(some 11), .mv, [(.c (.int .i64 1))], none⟩]) (.seq (.reg [⟨(some 50), .mv, [(.t 8)], none⟩, ⟨(some 51), .mv, [(.t 11)], none⟩, ⟨(some 52), (.call 35), [(.t 50), (.t 51)], none⟩, ⟨(some 11), .mv, [(.t 52)], none⟩]) (.seq (.seq (.reg [⟨(some 53), .mv, [(.t 11)], none⟩, ⟨(some 54), (.bin .lss), [(.t 53), (.c (.int .i64 0))], none⟩, ⟨(some 55), .mv, [(.t 54)], none⟩, ⟨(some 56), (.ldn 4), [(.t 9)], (some (55, false))⟩, ⟨(some 57), (.ldn 4), [(.t 6)], (some (55, false))⟩, ⟨(some 58), (.call 34), [(.t 56), (.t 57)], (some (55, false))⟩, ⟨(some 59), .not, [(.t 58)], (some (55, false))⟩, ⟨(some 60), .pick, [(.t 55), (.c (.bool true)), (.t 59)], none⟩, ⟨(some 61), .mv, [(.t 60)], none⟩, ⟨(some 62), .mv, [(.t 10)], (some (61, false))⟩, ⟨(some 63), .mv, [(.t 7)], (some (61, false))⟩, ⟨(some 64), (.beq true), [(.t 62), (.t 63)], (some (61, false))⟩, ⟨(some 65), .pick, [(.t 61), (.c (.bool true)), (.t 64)], none⟩]) (.cond (.t 65) (.seq (.reg [⟨(some 4), .mv, [(.c (.bool false))], none⟩]) .ret) .skip)) (.seq (.reg [⟨(some 12), .mv, [(.c (.int .i64 1))], none⟩]) (.seq (.reg [⟨(some 66), (.ldn 4), [(.t 9)], none⟩, ⟨(some 67), .mv, [(.t 12)], none⟩, ⟨(some 68), (.call 36), [(.t 66), (.t 67)], none⟩, ⟨(some 12), .mv, [(.t 68)], none⟩]) (.seq (.reg [⟨(some 13), .mv, [(.c (.int .i64 1))], none⟩]) (.seq (.reg [⟨(some 69), (.ldn 4), [(.t 9)], none⟩, ⟨(some 70), .mv, [(.t 13)], none⟩, ⟨(some 71), (.call 37), [(.t 69), (.t 70)], none⟩, ⟨(some 13), .mv, [(.t 71)], none⟩]) (.seq (.seq (.reg [⟨(some 72), .mv, [(.t 13)], none⟩, ⟨(some 73), (.bin .lss), [(.t 72), (.c (.int .i64 0))], none⟩]) (.cond (.t 73) (.seq (.reg [⟨(some 4), .mv, [(.c (.bool false))], none⟩]) .ret) .skip)) (.seq (.seq (.reg [⟨(some 74), .mv, [(.t 13)], none⟩, ⟨(some 75), .mv, [(.t 12)], none⟩, ⟨(some 76), (.bin .neq), [(.t 74), (.t 75)], none⟩]) (.cond (.t 76) (.seq (.reg [⟨(some 4), .mv, [(.c (.bool false))], none⟩]) .ret) .skip)) (.seq (.reg [⟨(some 78), .mv, [(.t 0)], none⟩, ⟨(some 79), (.call 20), [(.t 78)], none⟩, ⟨(some 80), .mv, [(.t 1)], none⟩, ⟨(some 81), (.call 33), [(.t 79), (.t 80)], none⟩, ⟨(some 77), .mv, [(.t 81)], none⟩, ⟨(some 82), (.ext 0), [(.t 77)], none⟩, ⟨(some 83), (.ext 1), [(.t 77)], none⟩, ⟨(some 14), (.alc [(.int .i64 0), (.int .i64 0), (.int .i64 0), .snil]), [], none⟩, ⟨none, (.st 4), [(.t 14), (.t 82)], none⟩, ⟨(some 15), .mv, [(.t 83)], none⟩]) (.seq (.seq (.reg [⟨(some 84), (.ldn 4), [(.t 14)], none⟩, ⟨(some 85), (.ldn 4), [(.t 6)], none⟩, ⟨(some 86), (.call 34), [(.t 84), (.t 85)], none⟩, ⟨(some 87), .not, [(.t 86)], none⟩, ⟨(some 88), .mv, [(.t 87)], none⟩, ⟨(some 89), .mv, [(.t 15)], (some (88, false))⟩, ⟨(some 90), .mv, [(.t 7)], (some (88, false))⟩, ⟨(some 91), (.beq true), [(.t 89), (.t 90)], (some (88, false))⟩, ⟨(some 92), .pick, [(.t 88), (.c (.bool true)), (.t 91)], none⟩]) (.cond (.t 92) (.seq (.reg [⟨(some 4), .mv, [(.c (.bool false))], none⟩]) .ret) .skip)) (.seq (.reg [⟨(some 13), .mv, [(.c (.int .i64 1))], none⟩]) (.seq (.reg [⟨(some 93), (.ldn 4), [(.t 9)], none⟩, ⟨(some 94), .mv, [(.t 13)], none⟩, ⟨(some 95), (.call 37), [(.t 93), (.t 94)], none⟩, ⟨(some 13), .mv, [(.t 95)], none⟩]) (.seq (.seq (.reg [⟨(some 96), .mv, [(.t 13)], none⟩, ⟨(some 97), (.bin .lss), [(.t 96), (.c (.int .i64 0))], none⟩]) (.cond (.t 97) (.seq (.reg [⟨(some 4), .mv, [(.c (.bool false))], none⟩]) .ret) .skip)) (.seq (.seq (.reg [⟨(some 98), .mv, [(.t 13)], none⟩, ⟨(some 99), .mv, [(.t 12)], none⟩, ⟨(some 100), (.bin .neq), [(.t 98), (.t 99)], none⟩]) (.cond (.t 100) (.seq (.reg [⟨(some 4), .mv, [(.c (.bool false))], none⟩]) .ret) .skip)) (.seq (.reg [⟨(some 4), .mv, [(.c (.bool true))], none⟩]) .ret)))))))))))))))))))))))))
theorem b_laws_FnExactShelfGet : Body Try.prog 7 101 c_laws_FnExactShelfGet [(.t 4)] := by
  have h1 : comp Try.prog 101 (Try.f7.body.getD .skip) = some c_laws_FnExactShelfGet := by kernel_rfl
  have h2 : Try.f7.body = some (Try.f7.body.getD .skip) := by kernel_rfl
  have h3 : Try.f7.results.toList.map (cRes Try.prog) = [(some (.t 4))] := by kernel_rfl
  exact ⟨_, _, Try.func7, h2, Try.ntmps7, h1, h3, by decide⟩


theorem thaw_owns (l : List NamedD) : (namedOwns l).map (List.map AV.thaw) = namedRows l := by
  simp [namedOwns, namedRows, namedOwn, namedRow, AV.thaw]
theorem snap_named {h : Heap} {id : Nat} {l : List NamedD} (ho : h id = some (.nst 5 (namedOwns l))) : (AV.ref id 0 l.length).snap h = .val (namedRows l) := by
  have e : sub (namedOwns l) 0 l.length = namedOwns l := by
    unfold sub
    rw [List.drop_zero, List.take_of_length_le (by simp [length_namedOwns])]
  simp only [AV.snap, AV.snap1, ho, Nat.zero_add, length_namedOwns, Nat.le_refl, if_true, e, thaw_owns]
theorem snap_auto {h : Heap} {id : Nat} {a : AutoD} (ho : h id = some (.arr 4 (edgeRows a.edges))) : (AV.agg (autoRef id a)).snap h = .agg (autoRow a) :=
  snap_agg (cells_cons rfl (cells_cons rfl (cells_cons rfl (cells_cons (snap1_all ho (length_edgeRows _)) rfl))))

theorem RShelfGet_eq {xs : List AV} {l : List NamedD} {name : Int} (hx : xs = [.val (namedRows l), .int .i64 name]) (h : l.length ≤ 1048576) (h2 : ∀ x ∈ l, x.auto.edges.length ≤ 1048576) : RShelfGet xs
  (.tup [.agg (autoRef 0 (shelfGet l name).1), .bool (shelfGet l name).2]) [.arr 4 (edgeRows (shelfGet l name).1.edges)] := ⟨l, name, hx, h, h2, rfl, rfl⟩
theorem REqAuto_eq {xs : List AV} {x y : AutoD} (h : xs = [.agg (autoRow x), .agg (autoRow y)]) : REqAuto xs (.bool (decide (x = y))) [] := ⟨x, y, h, rfl, rfl⟩
theorem REqNamedS_eq {xs : List AV} {a b : List NamedD} (h : xs = [.val (namedRows a), .val (namedRows b)]) : REqNamedS xs (.bool (decide (a = b))) [] := ⟨a, b, h, rfl, rfl⟩

theorem shelfGet_small {l : List NamedD} {name : Int} (h2 : ∀ x ∈ l, x.auto.edges.length ≤ 1048576) : (shelfGet l name).1.edges.length ≤ 1048576 := by
  unfold shelfGet
  split
  · rename_i h
    rcases findI_range l name with h3 | h3
    · omega
    · exact h2 _ (mem_getD (by omega))
  · simp [zeroAuto]

def RTrueGet (xs : List AV) (r : AV) (objs : List AObj) : Prop := ∃ l name, xs = [.val (namedRows l), .int .i64 name] ∧ r = .bool true ∧ objs = []

set_option maxRecDepth 4000 in
set_option maxHeartbeats 8000000 in
theorem s_laws_FnExactShelfGet : PureSound Try.prog 7 RTrueGet := by
  have hR : Rely Try.prog (ctxOf [(18, .pure RSzNamedS), (20, .pure RToNamedSO), (32, .pure RShelfGet), (33, .pure RShelfGet), (34, .pure REqAuto), (22, .pure REqNamedS), (35, .gen 1 GMarkNamedS), (36, .gen 1 GMarkAuto), (37, .pure RHeldAuto)]) :=
    rely_cons b_laws_szNamedS.has s_laws_szNamedS (rely_cons b_laws_toNamedS.has o_laws_toNamedS (rely_cons b_spec_ShelfGet.has s_spec_ShelfGet
      (rely_cons b_impl_ShelfGet.has s_impl_ShelfGet (rely_cons b_laws_eqAuto.has s_laws_eqAuto (rely_cons b_laws_eqNamedS.has s_laws_eqNamedS (rely_cons b_laws_markNamedS.has s_laws_markNamedS (rely_cons b_laws_markAuto.has s_laws_markAuto (rely_cons b_laws_heldAuto.has s_laws_heldAuto (rely_nil mixed)))))))))
  refine pure_of_aw b_laws_FnExactShelfGet ?_
  rintro xs r objs ⟨l, name, rfl, rfl, rfl⟩ -
  refine ⟨by simp, vc2_sound hR _ _ _ _ _ ?_⟩
  conv => whnf
  repeat' (first
    | contradiction
    | (refine And.intro (fun hb => ?_) (fun hb => ?_) <;> first | contradiction | skip
       all_goals (try simp only [decide_eq_true_eq, decide_eq_false_iff_not, Bool.not_eq_true', Bool.not_eq_false', Bool.not_not, ne_eq, length_ints, List.length_map, beq_iff_eq, bne_iff_ne, beq_eq_false_iff_ne, bne_eq_false_iff_eq, Int.not_le, Int.not_lt, ge_iff_le, gt_iff_lt, reduceCtorEq, not_false_eq_true, not_true_eq_false, Bool.false_eq_true, Bool.true_eq_false] at hb)
       all_goals (try (exfalso; first | contradiction | omega))
       all_goals conv => whnf)
    | (refine And.intro (live_all rfl) ?_; conv => whnf)
    | (refine And.intro rfl ?_; conv => whnf)
    | (refine ⟨_, IntWalk.i64_in _ (by omega), ?_⟩; conv => whnf)
    | (refine And.intro (okcs_all rfl) ?_; conv => whnf)
    | (refine And.intro (okvs_all rfl) ?_; conv => whnf)
    | (refine And.intro (frees_all rfl) ?_; conv => whnf)
    | (refine And.intro (bsl_all rfl) ?_; conv => whnf)
    | (refine And.intro (clen_all rfl) ?_; conv => whnf)
    | (refine And.intro (lens_all rfl) ?_; conv => whnf)
    | (refine And.intro (Nat.le_of_ble_eq_true rfl) ?_; conv => whnf)
    | (rw [ints_at (by omega)]; conv => whnf)
    | (rw [ints_at0 (by omega)]; conv => whnf)
    | (rw [ints_at' (by omega) (by omega)]; conv => whnf)
    | (refine And.intro (show (_ + 1) * _ ≤ _ by omega) ?_; conv => whnf)
    | (refine And.intro (show _ + 1 ≤ _ by omega) ?_; conv => whnf)
    | (refine And.intro (by first | omega | (simp only [length_ints]; omega)) ?_; conv => whnf)
    | (refine ⟨_, _, RSzNamedS_mk (by omega) (by omega), ?_⟩; conv => whnf)
    | fail)
  · refine ⟨.inl rfl, ?_⟩
    conv => whnf
    refine ⟨[], ⟨rfl, trivial⟩, ?_, rfl, rfl⟩
    conv => whnf
    left
    conv => lhs; whnf
  · have hs := left_small hb
    have hsm := shelfGet_small (name := name) hs.2
    have hsum : edgeSum l ≤ 1048576 := by
      unfold leftNamed at hb
      split at hb
      · omega
      · omega
    have hn := edgeSum_nonneg l
    have hg := RShelfGet_eq (l := l) (name := name) rfl hs.1 hs.2
    have hgs : ∀ xs, xs = [.val (namedRows l), .int .i64 name] → RShelfGet xs (.tup [.agg (autoRef 0 (shelfGet l name).1), .bool (shelfGet l name).2]) [.arr 4 (edgeRows (shelfGet l name).1.edges)] := fun xs h => RShelfGet_eq h hs.1 hs.2
    generalize shelfGet l name = g at hgs hsm
    obtain ⟨a, ok⟩ := g
    dsimp only at hgs hsm
    clear hg
    have hh := heldE_marks 1 a.edges.length
    cases ok
    all_goals
      conv => whnf
      repeat' (first
        | contradiction
        | (refine And.intro (fun hb => ?_) (fun hb => ?_) <;> first | contradiction | skip
           all_goals (try simp only [decide_eq_true_eq, decide_eq_false_iff_not, Bool.not_eq_true', Bool.not_eq_false', Bool.not_not, ne_eq, length_ints, List.length_map, beq_iff_eq, bne_iff_ne, beq_eq_false_iff_ne, bne_eq_false_iff_eq, Int.not_le, Int.not_lt, ge_iff_le, gt_iff_lt, reduceCtorEq, not_false_eq_true, not_true_eq_false, Bool.false_eq_true, Bool.true_eq_false] at hb)
           all_goals (try (exfalso; first | contradiction | omega))
           all_goals conv => whnf)
        | (refine And.intro (live_all rfl) ?_; conv => whnf)
        | (refine And.intro rfl ?_; conv => whnf)
        | (refine ⟨_, IntWalk.i64_in _ (by omega), ?_⟩; conv => whnf)
        | (refine And.intro (okcs_all rfl) ?_; conv => whnf)
        | (refine And.intro (okvs_all rfl) ?_; conv => whnf)
        | (refine And.intro (frees_all rfl) ?_; conv => whnf)
        | (refine And.intro (bsl_all rfl) ?_; conv => whnf)
        | (refine And.intro (clen_all rfl) ?_; conv => whnf)
        | (refine And.intro (lens_all rfl) ?_; conv => whnf)
        | (refine And.intro (Nat.le_of_ble_eq_true rfl) ?_; conv => whnf)
        | (rw [ints_at (by omega)]; conv => whnf)
        | (rw [ints_at0 (by omega)]; conv => whnf)
        | (rw [ints_at' (by omega) (by omega)]; conv => whnf)
        | (refine And.intro (show (_ + 1) * _ ≤ _ by omega) ?_; conv => whnf)
        | (refine And.intro (show _ + 1 ≤ _ by omega) ?_; conv => whnf)
        | (refine And.intro (by first | omega | (simp only [length_ints]; omega)) ?_; conv => whnf)
        | (refine ⟨_, _, RToNamedSO_mk (l := l) hs.1 hs.2, ?_⟩; conv => whnf)
        | (refine ⟨_, _, hgs _ (args_cons (snap_named rfl) rfl), ?_⟩; conv => whnf)
        | (refine ⟨_, _, REqAuto_eq (x := a) (y := a) (args_cons (snap_auto rfl) (args_cons (snap_auto rfl) rfl)), ?_⟩; conv => whnf)
        | (refine ⟨_, _, REqNamedS_eq (a := l) (b := l) (args_cons (snap_named rfl) (args_cons (snap_named rfl) rfl)), ?_⟩; conv => whnf)
        | (refine ⟨GMarkNamedS_mk (l := l) hs.1 hsum (by omega) (by omega) (fun l' hl' => ?_)⟩; conv => whnf)
        | (refine ⟨GMarkAuto_mk (a := a) (by omega) (by omega) (by omega) ?_⟩; conv => whnf)
        | (refine ⟨_, _, RHeldAuto_eq (a := ⟨a.letters, a.states, a.start, marksE 1 a.edges.length⟩) (k := 1) (args_cons (snap_agg (cells_cons rfl (cells_cons rfl (cells_cons rfl (cells_cons (snap1_all rfl (by simp [edgeRows, length_marksE])) rfl))))) rfl) (by simp [length_marksE]; omega) (by omega) (by omega), ?_⟩; conv => whnf)
        | fail)
    all_goals
      refine ⟨.inl rfl, ?_⟩
      conv => whnf
      refine ⟨[], ⟨rfl, trivial⟩, ?_, rfl, rfl⟩
      conv => whnf
      left
      conv => lhs; whnf

end Go.Proofs.Ytpfbkblgefddlaa.Ct
