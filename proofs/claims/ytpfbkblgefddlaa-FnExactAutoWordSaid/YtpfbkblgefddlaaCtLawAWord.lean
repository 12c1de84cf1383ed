/- The law that the program's AutoWord says what the reference's says. -/
import Derived.Test.YtpfbkblgefddlaaCtAWordI
import Derived.Test.YtpfbkblgefddlaaCtToAuto
import Derived.Test.YtpfbkblgefddlaaCtEqW
import Derived.Test.YtpfbkblgefddlaaCtMark
namespace Go.Proofs.Ytpfbkblgefddlaa.Ct
set_option linter.unusedSimpArgs false
set_option linter.unusedVariables false
open Go Go.Proofs Go.Proofs.Ytpfbkblgefddlaa.Av Go.Proofs.Ytpfbkblgefddlaa.Pl

def c_laws_FnExactAutoWord : ICode := (.seq (.reg [⟨(some 1), (.box 4), [(.t 0)], none⟩, ⟨(some 2), .mv, [(.c (.bool false))], none⟩]) (.seq (.reg [⟨(some 3), .mv, [(.c (.int .i64 1048576))], none⟩]) (.seq (.reg [⟨(some 14), (.ldn 4), [(.t 1)], none⟩, ⟨(some 15), .mv, [(.t 3)], none⟩, ⟨(some 16), (.call 46), [(.t 14), (.t 15)], none⟩, ⟨(some 3), .mv, [(.t 16)], none⟩]) (.seq (.seq (.reg [⟨(some 17), .mv, [(.t 3)], none⟩, ⟨(some 18), (.bin .lss), [(.t 17), (.c (.int .i64 0))], none⟩]) (.cond (.t 18) (.seq (.reg [⟨(some 2), .mv, [(.c (.bool true))], none⟩]) .ret) .skip)) (.seq (.reg [⟨(some 20), (.ldn 4), [(.t 1)], none⟩, ⟨(some 21), (.call 48), [(.t 20)], none⟩, ⟨(some 22), (.call 47), [(.t 21)], none⟩, ⟨(some 19), .mv, [(.t 22)], none⟩, ⟨(some 23), (.ext 0), [(.t 19)], none⟩, ⟨(some 24), (.ext 1), [(.t 19)], none⟩, ⟨(some 4), (.alc [.snil, .snil]), [], none⟩, ⟨none, (.st 2), [(.t 4), (.t 23)], none⟩, ⟨(some 5), .mv, [(.t 24)], none⟩]) (.seq (.reg [⟨(some 25), (.ldn 4), [(.t 1)], none⟩, ⟨(some 26), (.call 48), [(.t 25)], none⟩, ⟨(some 6), (.alc [(.int .i64 0), (.int .i64 0), (.int .i64 0), .snil]), [], none⟩, ⟨none, (.st 4), [(.t 6), (.t 26)], none⟩]) (.seq (.reg [⟨(some 28), (.ldn 4), [(.t 6)], none⟩, ⟨(some 29), (.call 49), [(.t 28)], none⟩, ⟨(some 27), .mv, [(.t 29)], none⟩, ⟨(some 30), (.ext 0), [(.t 27)], none⟩, ⟨(some 31), (.ext 1), [(.t 27)], none⟩, ⟨(some 7), (.alc [.snil, .snil]), [], none⟩, ⟨none, (.st 2), [(.t 7), (.t 30)], none⟩, ⟨(some 8), .mv, [(.t 31)], none⟩]) (.seq (.seq (.reg [⟨(some 32), (.ldn 2), [(.t 7)], none⟩, ⟨(some 33), (.ldn 2), [(.t 4)], none⟩, ⟨(some 34), (.call 17), [(.t 32), (.t 33)], none⟩, ⟨(some 35), .not, [(.t 34)], none⟩, ⟨(some 36), .mv, [(.t 35)], none⟩, ⟨(some 37), .mv, [(.t 8)], (some (36, false))⟩, ⟨(some 38), .mv, [(.t 5)], (some (36, false))⟩, ⟨(some 39), (.beq true), [(.t 37), (.t 38)], (some (36, false))⟩, ⟨(some 40), .pick, [(.t 36), (.c (.bool true)), (.t 39)], none⟩]) (.cond (.t 40) (.seq (.reg [⟨(some 2), .mv, [(.c (.bool false))], none⟩]) .ret) .skip)) (.seq (.seq (.drw [⟨(some 41), (.ldn 4), [(.t 6)], none⟩, ⟨(some 42), (.ldn 4), [(.t 1)], none⟩, ⟨(some 43), (.call 48), [(.t 42)], none⟩, ⟨(some 44), (.call 34), [(.t 41), (.t 43)], none⟩, ⟨(some 45), .not, [(.t 44)], none⟩] [[], [], [1], [0, 1, 2], [0, 1, 2, 3]] true true) (.cond (.t 45) (.seq (.reg [⟨(some 2), .mv, [(.c (.bool false))], none⟩]) .ret) .skip)) (.seq (.reg [⟨(some 9), .mv, [(.c (.int .i64 1))], none⟩]) (.seq (.reg [⟨(some 46), (.ldn 4), [(.t 6)], none⟩, ⟨(some 47), .mv, [(.t 9)], none⟩, ⟨(some 48), (.call 36), [(.t 46), (.t 47)], none⟩, ⟨(some 9), .mv, [(.t 48)], none⟩]) (.seq (.seq (.reg [⟨(some 49), .mv, [(.t 9)], none⟩, ⟨(some 50), (.bin .lss), [(.t 49), (.c (.int .i64 0))], none⟩, ⟨(some 51), .mv, [(.t 50)], none⟩, ⟨(some 52), (.ldn 2), [(.t 7)], (some (51, false))⟩, ⟨(some 53), (.ldn 2), [(.t 4)], (some (51, false))⟩, ⟨(some 54), (.call 17), [(.t 52), (.t 53)], (some (51, false))⟩, ⟨(some 55), .not, [(.t 54)], (some (51, false))⟩, ⟨(some 56), .pick, [(.t 51), (.c (.bool true)), (.t 55)], none⟩, ⟨(some 57), .mv, [(.t 56)], none⟩, ⟨(some 58), .mv, [(.t 8)], (some (57, false))⟩, ⟨(some 59), .mv, [(.t 5)], (some (57, false))⟩, ⟨(some 60), (.beq true), [(.t 58), (.t 59)], (some (57, false))⟩, ⟨(some 61), .pick, [(.t 57), (.c (.bool true)), (.t 60)], none⟩]) (.cond (.t 61) (.seq (.reg [⟨(some 2), .mv, [(.c (.bool false))], none⟩]) .ret) .skip)) (.seq (.reg [⟨(some 10), .mv, [(.c (.int .i64 1))], none⟩]) (.seq (.reg [⟨(some 62), (.ldn 2), [(.t 7)], none⟩, ⟨(some 63), .mv, [(.t 10)], none⟩, ⟨(some 64), (.call 25), [(.t 62), (.t 63)], none⟩, ⟨(some 10), .mv, [(.t 64)], none⟩]) (.seq (.reg [⟨(some 11), .mv, [(.c (.int .i64 1))], none⟩]) (.seq (.reg [⟨(some 65), (.ldn 2), [(.t 7)], none⟩, ⟨(some 66), .mv, [(.t 11)], none⟩, ⟨(some 67), (.call 26), [(.t 65), (.t 66)], none⟩, ⟨(some 11), .mv, [(.t 67)], none⟩]) (.seq (.seq (.reg [⟨(some 68), .mv, [(.t 11)], none⟩, ⟨(some 69), (.bin .lss), [(.t 68), (.c (.int .i64 0))], none⟩]) (.cond (.t 69) (.seq (.reg [⟨(some 2), .mv, [(.c (.bool false))], none⟩]) .ret) .skip)) (.seq (.seq (.reg [⟨(some 70), .mv, [(.t 11)], none⟩, ⟨(some 71), .mv, [(.t 10)], none⟩, ⟨(some 72), (.bin .neq), [(.t 70), (.t 71)], none⟩]) (.cond (.t 72) (.seq (.reg [⟨(some 2), .mv, [(.c (.bool false))], none⟩]) .ret) .skip)) (.seq (.reg [⟨(some 74), (.ldn 4), [(.t 1)], none⟩, ⟨(some 75), (.call 48), [(.t 74)], none⟩, ⟨(some 76), (.call 49), [(.t 75)], none⟩, ⟨(some 73), .mv, [(.t 76)], none⟩, ⟨(some 77), (.ext 0), [(.t 73)], none⟩, ⟨(some 78), (.ext 1), [(.t 73)], none⟩, ⟨(some 12), (.alc [.snil, .snil]), [], none⟩, ⟨none, (.st 2), [(.t 12), (.t 77)], none⟩, ⟨(some 13), .mv, [(.t 78)], none⟩]) (.seq (.seq (.reg [⟨(some 79), (.ldn 2), [(.t 12)], none⟩, ⟨(some 80), (.ldn 2), [(.t 4)], none⟩, ⟨(some 81), (.call 17), [(.t 79), (.t 80)], none⟩, ⟨(some 82), .not, [(.t 81)], none⟩, ⟨(some 83), .mv, [(.t 82)], none⟩, ⟨(some 84), .mv, [(.t 13)], (some (83, false))⟩, ⟨(some 85), .mv, [(.t 5)], (some (83, false))⟩, ⟨(some 86), (.beq true), [(.t 84), (.t 85)], (some (83, false))⟩, ⟨(some 87), .pick, [(.t 83), (.c (.bool true)), (.t 86)], none⟩]) (.cond (.t 87) (.seq (.reg [⟨(some 2), .mv, [(.c (.bool false))], none⟩]) .ret) .skip)) (.seq (.reg [⟨(some 11), .mv, [(.c (.int .i64 1))], none⟩]) (.seq (.reg [⟨(some 88), (.ldn 2), [(.t 7)], none⟩, ⟨(some 89), .mv, [(.t 11)], none⟩, ⟨(some 90), (.call 26), [(.t 88), (.t 89)], none⟩, ⟨(some 11), .mv, [(.t 90)], none⟩]) (.seq (.seq (.reg [⟨(some 91), .mv, [(.t 11)], none⟩, ⟨(some 92), (.bin .lss), [(.t 91), (.c (.int .i64 0))], none⟩]) (.cond (.t 92) (.seq (.reg [⟨(some 2), .mv, [(.c (.bool false))], none⟩]) .ret) .skip)) (.seq (.seq (.reg [⟨(some 93), .mv, [(.t 11)], none⟩, ⟨(some 94), .mv, [(.t 10)], none⟩, ⟨(some 95), (.bin .neq), [(.t 93), (.t 94)], none⟩]) (.cond (.t 95) (.seq (.reg [⟨(some 2), .mv, [(.c (.bool false))], none⟩]) .ret) .skip)) (.seq (.reg [⟨(some 2), .mv, [(.c (.bool true))], none⟩]) .ret)))))))))))))))))))))))))
theorem b_laws_FnExactAutoWord : Body Try.prog 9 96 c_laws_FnExactAutoWord [(.t 2)] := body_mk Try.func9 (by kernel_rfl) (by decide)


theorem RHeldWord_marks {xs : List AV} {k : Int} {n m : Nat} (h : xs = [word (marks k n) (marks (k + n) m), .int .i64 k]) (h1 : n ≤ 1073741824) (h2 : m ≤ 1073741824) (h3 : 0 ≤ k ∧ k ≤ 1073741824) : RHeldWord xs (.int .i64 (k + n + m)) [] := by
  have := RHeldWord_eq h (by rw [length_marks]; exact h1) (by rw [length_marks]; exact h2) h3.1 h3.2
  rwa [heldW_marks k n m h3.1] at this
theorem snap_word {h : Heap} {i j n m : Nat} {s l : List Int} (hi : h i = some (.arr 1 (ints s))) (hj : h j = some (.arr 1 (ints l))) (hn : s.length = n) (hm : l.length = m) : (AV.agg [.ref i 0 n, .ref j 0 m]).snap h = word s l :=
  snap_agg (cells_cons (snap1_all hi (by rw [length_ints, hn])) (cells_cons (snap1_all hj (by rw [length_ints, hm])) rfl))

theorem aword_small {a : AutoD} (ha : AutoOk a) : (autoW a).1.1.length ≤ 1000 ∧ (autoW a).1.2.length ≤ 1000 := by
  by_cases h : ∃ i, i < a.edges.length ∧ goodE a i
  · obtain ⟨i, ⟨h1, h2⟩, h3⟩ := least _ h
    rw [autoW_at h1 h2 (fun j hj hg => by have := h3 j ⟨by omega, hg⟩; omega)]
    have he := edge_in ha h1
    unfold EdgeIn at he
    have g1 := path_len ha (X := a.start.toNat) (t := (a.edges.getD i default).src.toNat) (by omega)
    have g2 := path_len ha (X := 2 ^ (a.edges.getD i default).dst.toNat) (t := (a.edges.getD i default).src.toNat) (by omega)
    simp only [wordE, length_natsI, List.length_cons]
    omega
  · rw [autoW_none (fun j hj hg => h ⟨j, hj, hg⟩)]
    simp

/-- what both say -/
noncomputable def sayW (a : AutoD) : (List Int × List Int) × Bool := open Classical in if AutoOk a then autoW a else (([], []), false)
theorem RAWord_eq {xs : List AV} {a : AutoD} (hx : xs = [.agg (autoRow a)]) : RAWord xs (wordR (sayW a)) (wordO (sayW a)) := by
  refine ⟨a, hx, ?_, ?_⟩ <;> (unfold sayW; split <;> rfl)
theorem sayW_small {a : AutoD} : (sayW a).1.1.length ≤ 1000 ∧ (sayW a).1.2.length ≤ 1000 := by
  unfold sayW
  split
  · rename_i h; exact aword_small h
  · simp

def RTrueAuto (xs : List AV) (r : AV) (objs : List AObj) : Prop := ∃ a, xs = [.agg (autoRow a)] ∧ r = .bool true ∧ objs = []

set_option maxRecDepth 4000 in
set_option maxHeartbeats 8000000 in
theorem s_laws_FnExactAutoWord : PureSound Try.prog 9 RTrueAuto := by
  have hR : Rely Try.prog (ctxOf [(46, .pure RSzAuto), (48, .pure RToAutoO), (47, .pure RAWord), (49, .pure RAWord), (17, .pure REqWord), (34, .pure REqAuto), (36, .gen 1 GMarkAuto), (25, .gen 2 GMarkWord), (26, .pure RHeldWord)]) :=
    rely_cons b_laws_szAuto.has s_laws_szAuto (rely_cons b_laws_toAuto.has o_laws_toAuto (rely_cons b_spec_AutoWord.has s_spec_AutoWord (rely_cons b_impl_AutoWord.has s_impl_AutoWord (rely_cons b_laws_eqWord.has s_laws_eqWord
      (rely_cons b_laws_eqAuto.has s_laws_eqAuto (rely_cons b_laws_markAuto.has s_laws_markAuto (rely_cons b_laws_markWord.has s_laws_markWord (rely_cons b_laws_heldWord.has s_laws_heldWord (rely_nil mixed)))))))))
  refine pure_of_aw b_laws_FnExactAutoWord ?_
  rintro xs r objs ⟨a, rfl, rfl, rfl⟩ -
  refine ⟨by simp, vc2_sound hR _ _ _ _ _ ?_⟩
  conv => whnf
  repeat' ((first
    | contradiction
    | (refine And.intro (fun hb => ?_) (fun hb => ?_) <;> first | contradiction | ((try simp only [SB, reduceCtorEq] at hb); try (exfalso; first | contradiction | omega)))
    | refine And.intro rfl ?_
    | refine ⟨_, IntWalk.i64_in _ (by omega), ?_⟩
    | rw [ints_at (by omega)]
    | rw [ints_at0 (by omega)]
    | rw [ints_at' (by omega) (by omega)]
    | refine And.intro (lens_all rfl) ?_
    | refine And.intro (show _ ≤ _ ∧ (_ + 1) * _ ≤ _ ∧ _ + 1 ≤ _ by first | omega | (simp; omega)) ?_
    | refine And.intro (show 1 * _ ≤ _ ∧ 1 ≤ _ by omega) ?_
    | refine And.intro (by first | omega | (simp; omega) | (show _ ∧ _; simp; done)) ?_
    | refine ⟨_, _, RSzAuto_mk (x := a) (by omega) (by omega), ?_⟩
    | fail) <;> conv => whnf)
  · refine ⟨.inl rfl, ?_⟩
    conv => whnf
    refine ⟨[], ⟨rfl, trivial⟩, ?_, rfl, rfl⟩
    conv => whnf
    left
    conv => lhs; whnf
  have hs : a.edges.length ≤ 1048576 := by split at hb <;> omega
  have hsm := sayW_small (a := a)
  have hg : ∀ xs, xs = [.agg (autoRow a)] → RAWord xs (wordR (sayW a)) (wordO (sayW a)) := fun xs h => RAWord_eq h
  generalize sayW a = g at hg hsm
  obtain ⟨⟨s, l⟩, ok⟩ := g
  dsimp only at hsm
  clear hb
  cases ok
  all_goals
    conv => whnf
    repeat' ((first
      | contradiction
      | (refine And.intro (fun hb => ?_) (fun hb => ?_) <;> first | contradiction | ((try simp only [SB, reduceCtorEq] at hb); try (exfalso; first | contradiction | omega)))
      | refine And.intro rfl ?_
      | refine ⟨_, IntWalk.i64_in _ (by omega), ?_⟩
      | rw [ints_at (by omega)]
      | rw [ints_at0 (by omega)]
      | rw [ints_at' (by omega) (by omega)]
      | refine And.intro (lens_all rfl) ?_
      | refine And.intro (show _ ≤ _ ∧ (_ + 1) * _ ≤ _ ∧ _ + 1 ≤ _ by first | omega | (simp; omega)) ?_
      | refine And.intro (show 1 * _ ≤ _ ∧ 1 ≤ _ by omega) ?_
      | refine And.intro (by first | omega | (simp; omega) | (show _ ∧ _; simp; done)) ?_
      | refine ⟨_, _, RToAutoO_mk hs, ?_⟩
      | refine ⟨_, _, hg _ (args_cons (snap_auto rfl) rfl), ?_⟩
      | refine ⟨_, _, REqWord_eq (s := s) (l := l) (s' := s) (l' := l) (args_cons (snap_word rfl rfl rfl rfl) (args_cons (snap_word rfl rfl rfl rfl) rfl)), ?_⟩
      | refine ⟨_, _, REqAuto_eq (x := a) (y := a) (args_cons (snap_auto rfl) (args_cons (snap_auto rfl) rfl)), ?_⟩
      | refine ⟨_, _, REqAuto_eq (x := a) (y := a) (args_cons (snap_auto rfl) (args_cons (snap_auto2 rfl) rfl)), ?_⟩
      | refine ⟨GMarkAuto_mk (a := a) (by omega) (by omega) (by omega) ?_⟩
      | refine ⟨GMarkWord_mk (s := s) (l := l) (by omega) (by omega) (by omega) (by omega) ?_⟩
      | refine ⟨_, _, RHeldWord_marks (k := 1) (n := s.length) (m := l.length) (args_cons (snap_word rfl rfl (length_marks _ _) (length_marks _ _)) rfl) (by omega) (by omega) (by omega), ?_⟩
      | fail) <;> conv => whnf)
  all_goals
    refine ⟨.inl rfl, ?_⟩
    conv => whnf
    refine ⟨[], ⟨rfl, trivial⟩, ?_, rfl, rfl⟩
    conv => whnf
    left
    conv => lhs; whnf

end Go.Proofs.Ytpfbkblgefddlaa.Ct
