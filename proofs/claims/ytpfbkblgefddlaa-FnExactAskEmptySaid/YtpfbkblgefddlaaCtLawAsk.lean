/- The law that the program's AskEmpty says what the reference's says. -/
import Derived.Test.YtpfbkblgefddlaaCtAsk
import Derived.Test.YtpfbkblgefddlaaCtToAuto
namespace Go.Proofs.Ytpfbkblgefddlaa.Ct
set_option linter.unusedSimpArgs false
set_option linter.unusedVariables false
open Go Go.Proofs Go.Proofs.Ytpfbkblgefddlaa.Av Go.Proofs.Ytpfbkblgefddlaa.Pl

def c_laws_FnExactAskEmpty : ICode := (.seq (.reg [⟨(some 1), (.box 4), [(.t 0)], none⟩, ⟨(some 2), .mv, [(.c (.bool false))], none⟩]) (.seq (.reg [⟨(some 3), .mv, [(.c (.int .i64 1048576))], none⟩]) (.seq (.reg [⟨(some 11), (.ldn 4), [(.t 1)], none⟩, ⟨(some 12), .mv, [(.t 3)], none⟩, ⟨(some 13), (.call 46), [(.t 11), (.t 12)], none⟩, ⟨(some 3), .mv, [(.t 13)], none⟩]) (.seq (.seq (.reg [⟨(some 14), .mv, [(.t 3)], none⟩, ⟨(some 15), (.bin .lss), [(.t 14), (.c (.int .i64 0))], none⟩]) (.cond (.t 15) (.seq (.reg [⟨(some 2), .mv, [(.c (.bool true))], none⟩]) .ret) .skip)) (.seq (.reg [⟨(some 16), (.ldn 4), [(.t 1)], none⟩, ⟨(some 17), (.call 48), [(.t 16)], none⟩, ⟨(some 18), (.call 57), [(.t 17)], none⟩, ⟨(some 4), (.alc [(.int .i64 0), .snil, .snil]), [], none⟩, ⟨none, (.st 3), [(.t 4), (.t 18)], none⟩]) (.seq (.reg [⟨(some 19), (.ldn 4), [(.t 1)], none⟩, ⟨(some 20), (.call 48), [(.t 19)], none⟩, ⟨(some 5), (.alc [(.int .i64 0), (.int .i64 0), (.int .i64 0), .snil]), [], none⟩, ⟨none, (.st 4), [(.t 5), (.t 20)], none⟩]) (.seq (.reg [⟨(some 21), (.ldn 4), [(.t 5)], none⟩, ⟨(some 22), (.call 58), [(.t 21)], none⟩, ⟨(some 6), (.alc [(.int .i64 0), .snil, .snil]), [], none⟩, ⟨none, (.st 3), [(.t 6), (.t 22)], none⟩]) (.seq (.seq (.reg [⟨(some 23), (.ldn 3), [(.t 6)], none⟩, ⟨(some 24), (.ldn 3), [(.t 4)], none⟩, ⟨(some 25), (.call 56), [(.t 23), (.t 24)], none⟩, ⟨(some 26), .not, [(.t 25)], none⟩]) (.cond (.t 26) (.seq (.reg [⟨(some 2), .mv, [(.c (.bool false))], none⟩]) .ret) .skip)) (.seq (.seq (.drw [⟨(some 27), (.ldn 4), [(.t 5)], none⟩, ⟨(some 28), (.ldn 4), [(.t 1)], none⟩, ⟨(some 29), (.call 48), [(.t 28)], none⟩, ⟨(some 30), (.call 34), [(.t 27), (.t 29)], none⟩, ⟨(some 31), .not, [(.t 30)], none⟩] [[], [], [1], [0, 1, 2], [0, 1, 2, 3]] true true) (.cond (.t 31) (.seq (.reg [⟨(some 2), .mv, [(.c (.bool false))], none⟩]) .ret) .skip)) (.seq (.reg [⟨(some 7), .mv, [(.c (.int .i64 1))], none⟩]) (.seq (.reg [⟨(some 32), (.ldn 4), [(.t 5)], none⟩, ⟨(some 33), .mv, [(.t 7)], none⟩, ⟨(some 34), (.call 36), [(.t 32), (.t 33)], none⟩, ⟨(some 7), .mv, [(.t 34)], none⟩]) (.seq (.seq (.reg [⟨(some 35), .mv, [(.t 7)], none⟩, ⟨(some 36), (.bin .lss), [(.t 35), (.c (.int .i64 0))], none⟩, ⟨(some 37), .mv, [(.t 36)], none⟩, ⟨(some 38), (.ldn 3), [(.t 6)], (some (37, false))⟩, ⟨(some 39), (.ldn 3), [(.t 4)], (some (37, false))⟩, ⟨(some 40), (.call 56), [(.t 38), (.t 39)], (some (37, false))⟩, ⟨(some 41), .not, [(.t 40)], (some (37, false))⟩, ⟨(some 42), .pick, [(.t 37), (.c (.bool true)), (.t 41)], none⟩]) (.cond (.t 42) (.seq (.reg [⟨(some 2), .mv, [(.c (.bool false))], none⟩]) .ret) .skip)) (.seq (.reg [⟨(some 8), .mv, [(.c (.int .i64 1))], none⟩]) (.seq (.reg [⟨(some 43), (.ldn 3), [(.t 6)], none⟩, ⟨(some 44), .mv, [(.t 8)], none⟩, ⟨(some 45), (.call 59), [(.t 43), (.t 44)], none⟩, ⟨(some 8), .mv, [(.t 45)], none⟩]) (.seq (.reg [⟨(some 9), .mv, [(.c (.int .i64 1))], none⟩]) (.seq (.reg [⟨(some 46), (.ldn 3), [(.t 6)], none⟩, ⟨(some 47), .mv, [(.t 9)], none⟩, ⟨(some 48), (.call 60), [(.t 46), (.t 47)], none⟩, ⟨(some 9), .mv, [(.t 48)], none⟩]) (.seq (.seq (.reg [⟨(some 49), .mv, [(.t 9)], none⟩, ⟨(some 50), (.bin .lss), [(.t 49), (.c (.int .i64 0))], none⟩]) (.cond (.t 50) (.seq (.reg [⟨(some 2), .mv, [(.c (.bool false))], none⟩]) .ret) .skip)) (.seq (.seq (.reg [⟨(some 51), .mv, [(.t 9)], none⟩, ⟨(some 52), .mv, [(.t 8)], none⟩, ⟨(some 53), (.bin .neq), [(.t 51), (.t 52)], none⟩]) (.cond (.t 53) (.seq (.reg [⟨(some 2), .mv, [(.c (.bool false))], none⟩]) .ret) .skip)) (.seq (.reg [⟨(some 54), (.ldn 4), [(.t 1)], none⟩, ⟨(some 55), (.call 48), [(.t 54)], none⟩, ⟨(some 56), (.call 58), [(.t 55)], none⟩, ⟨(some 10), (.alc [(.int .i64 0), .snil, .snil]), [], none⟩, ⟨none, (.st 3), [(.t 10), (.t 56)], none⟩]) (.seq (.seq (.reg [⟨(some 57), (.ldn 3), [(.t 10)], none⟩, ⟨(some 58), (.ldn 3), [(.t 4)], none⟩, ⟨(some 59), (.call 56), [(.t 57), (.t 58)], none⟩, ⟨(some 60), .not, [(.t 59)], none⟩]) (.cond (.t 60) (.seq (.reg [⟨(some 2), .mv, [(.c (.bool false))], none⟩]) .ret) .skip)) (.seq (.reg [⟨(some 9), .mv, [(.c (.int .i64 1))], none⟩]) (.seq (.reg [⟨(some 61), (.ldn 3), [(.t 6)], none⟩, ⟨(some 62), .mv, [(.t 9)], none⟩, ⟨(some 63), (.call 60), [(.t 61), (.t 62)], none⟩, ⟨(some 9), .mv, [(.t 63)], none⟩]) (.seq (.seq (.reg [⟨(some 64), .mv, [(.t 9)], none⟩, ⟨(some 65), (.bin .lss), [(.t 64), (.c (.int .i64 0))], none⟩]) (.cond (.t 65) (.seq (.reg [⟨(some 2), .mv, [(.c (.bool false))], none⟩]) .ret) .skip)) (.seq (.seq (.reg [⟨(some 66), .mv, [(.t 9)], none⟩, ⟨(some 67), .mv, [(.t 8)], none⟩, ⟨(some 68), (.bin .neq), [(.t 66), (.t 67)], none⟩]) (.cond (.t 68) (.seq (.reg [⟨(some 2), .mv, [(.c (.bool false))], none⟩]) .ret) .skip)) (.seq (.reg [⟨(some 2), .mv, [(.c (.bool true))], none⟩]) .ret)))))))))))))))))))))))))
theorem b_laws_FnExactAskEmpty : Body Try.prog 12 69 c_laws_FnExactAskEmpty [(.t 2)] := body_mk Try.func12 (by kernel_rfl) (by decide)


theorem RHeldRes_marks {xs : List AV} {c k : Int} {n m : Nat} (h : xs = [resV c (marks k n) (marks (k + n) m), .int .i64 k]) (h1 : n ≤ 1073741824) (h2 : m ≤ 1073741824) (h3 : 0 ≤ k ∧ k ≤ 1073741824) : RHeldRes xs (.int .i64 (k + n + m)) [] := by
  have := RHeldRes_eq h (by rw [length_marks]; exact h1) (by rw [length_marks]; exact h2) h3.1 h3.2
  rwa [heldW_marks k n m h3.1] at this
theorem snap_res3 {h : Heap} {i j n m : Nat} {c : Int} {s l : List Int} (hi : h i = some (.arr 1 (ints s))) (hj : h j = some (.arr 1 (ints l))) (hn : s.length = n) (hm : l.length = m) : (AV.agg [.int .i64 c, .ref i 0 n, .ref j 0 m]).snap h = resV c s l :=
  snap_agg (cells_cons rfl (cells_cons (snap1_all hi (by rw [length_ints, hn])) (cells_cons (snap1_all hj (by rw [length_ints, hm])) rfl)))

theorem aword_small {a : AutoD} (ha : AutoOk a) : (autoW a).1.1.length ≤ 1000 ∧ (autoW a).1.2.length ≤ 1000 := by
  by_cases h : ∃ i, i < a.edges.length ∧ goodE a i
  · obtain ⟨i, ⟨h1, h2⟩, h3⟩ := least _ h
    rw [autoW_at h1 h2 (fun j hj hg => by have := h3 j ⟨by omega, hg⟩; omega)]
    have he := edge_in ha h1
    unfold EdgeIn at he
    have g1 := path_len ha (X := a.start.toNat) (t := (a.edges.getD i default).src.toNat) (by omega)
    have g2 := path_len ha (X := 2 ^ (a.edges.getD i default).dst.toNat) (t := (a.edges.getD i default).src.toNat) (by omega)
    simp only [wordE, length_natsI, List.length_cons]
    omega
  · rw [autoW_none (fun j hj hg => h ⟨j, hj, hg⟩)]
    simp

theorem sayA_small {a : AutoD} : (sayA a).2.1.length ≤ 1000 ∧ (sayA a).2.2.length ≤ 1000 := by
  unfold sayA
  split
  · rename_i h
    split
    · exact aword_small h
    · simp
  · simp

def RTrueAuto (xs : List AV) (r : AV) (objs : List AObj) : Prop := ∃ a, xs = [.agg (autoRow a)] ∧ r = .bool true ∧ objs = []

set_option maxRecDepth 4000 in
set_option maxHeartbeats 8000000 in
theorem s_laws_FnExactAskEmpty : PureSound Try.prog 12 RTrueAuto := by
  have hR : Rely Try.prog (ctxOf [(46, .pure RSzAuto), (48, .pure RToAutoO), (57, .pure RAsk), (58, .pure RAsk), (56, .pure REqRes), (34, .pure REqAuto), (36, .gen 1 GMarkAuto), (59, .gen 2 GMarkRes), (60, .pure RHeldRes)]) :=
    rely_cons b_laws_szAuto.has s_laws_szAuto (rely_cons b_laws_toAuto.has o_laws_toAuto (rely_cons b_spec_AskEmpty.has s_spec_AskEmpty (rely_cons b_impl_AskEmpty.has s_impl_AskEmpty (rely_cons b_laws_eqResult.has s_laws_eqResult
      (rely_cons b_laws_eqAuto.has s_laws_eqAuto (rely_cons b_laws_markAuto.has s_laws_markAuto (rely_cons b_laws_markResult.has s_laws_markResult (rely_cons b_laws_heldResult.has s_laws_heldResult (rely_nil mixed)))))))))
  refine pure_of_aw b_laws_FnExactAskEmpty ?_
  rintro xs r objs ⟨a, rfl, rfl, rfl⟩ -
  refine ⟨by simp, vc2_sound hR _ _ _ _ _ ?_⟩
  conv => whnf
  repeat' ((first
    | contradiction
    | (refine And.intro (fun hb => ?_) (fun hb => ?_) <;> first | contradiction | ((try simp only [SB, reduceCtorEq] at hb); try (exfalso; first | contradiction | omega)))
    | refine And.intro rfl ?_
    | refine ⟨_, IntWalk.i64_in _ (by omega), ?_⟩
    | rw [ints_at (by omega)]
    | rw [ints_at0 (by omega)]
    | rw [ints_at' (by omega) (by omega)]
    | refine And.intro (lens_all rfl) ?_
    | refine And.intro (show _ ≤ _ ∧ (_ + 1) * _ ≤ _ ∧ _ + 1 ≤ _ by first | omega | (simp; omega)) ?_
    | refine And.intro (show 1 * _ ≤ _ ∧ 1 ≤ _ by omega) ?_
    | refine And.intro (by first | omega | (simp; omega) | (show _ ∧ _; simp; done)) ?_
    | refine ⟨_, _, RSzAuto_mk (x := a) (by omega) (by omega), ?_⟩
    | fail) <;> conv => whnf)
  · refine ⟨.inl rfl, ?_⟩
    conv => whnf
    refine ⟨[], ⟨rfl, trivial⟩, ?_, rfl, rfl⟩
    conv => whnf
    left
    conv => lhs; whnf
  have hs : a.edges.length ≤ 1048576 := by split at hb <;> omega
  have hsm := sayA_small (a := a)
  have hg : ∀ xs, xs = [.agg (autoRow a)] → RAsk xs (resR (sayA a).1 (sayA a).2) (resO (sayA a).2) := fun xs h => RAsk_eq h
  generalize sayA a = g at hg hsm
  obtain ⟨c, s, l⟩ := g
  dsimp only at hsm
  clear hb
  conv => whnf
  repeat' ((first
    | contradiction
    | (refine And.intro (fun hb => ?_) (fun hb => ?_) <;> first | contradiction | ((try simp only [SB, reduceCtorEq] at hb); try (exfalso; first | contradiction | omega)))
    | refine And.intro rfl ?_
    | refine ⟨_, IntWalk.i64_in _ (by omega), ?_⟩
    | rw [ints_at (by omega)]
    | rw [ints_at0 (by omega)]
    | rw [ints_at' (by omega) (by omega)]
    | refine And.intro (lens_all rfl) ?_
    | refine And.intro (show _ ≤ _ ∧ (_ + 1) * _ ≤ _ ∧ _ + 1 ≤ _ by first | omega | (simp; omega)) ?_
    | refine And.intro (show 1 * _ ≤ _ ∧ 1 ≤ _ by omega) ?_
    | refine And.intro (by first | omega | (simp; omega) | (show _ ∧ _; simp; done)) ?_
    | refine ⟨_, _, RToAutoO_mk hs, ?_⟩
    | refine ⟨_, _, hg _ (args_cons (snap_auto rfl) rfl), ?_⟩
    | refine ⟨_, _, REqRes_eq (c := c) (c' := c) (s := s) (l := l) (s' := s) (l' := l) (args_cons (snap_res3 rfl rfl rfl rfl) (args_cons (snap_res3 rfl rfl rfl rfl) rfl)), ?_⟩
    | refine ⟨_, _, REqAuto_eq (x := a) (y := a) (args_cons (snap_auto rfl) (args_cons (snap_auto rfl) rfl)), ?_⟩
    | refine ⟨_, _, REqAuto_eq (x := a) (y := a) (args_cons (snap_auto rfl) (args_cons (snap_auto2 rfl) rfl)), ?_⟩
    | refine ⟨GMarkAuto_mk (a := a) (by omega) (by omega) (by omega) ?_⟩
    | refine ⟨GMarkRes_mk (s := s) (l := l) (by omega) (by omega) (by omega) (by omega) ?_⟩
    | refine ⟨_, _, RHeldRes_marks (c := c) (k := 1) (n := s.length) (m := l.length) (args_cons (snap_res3 rfl rfl (length_marks _ _) (length_marks _ _)) rfl) (by omega) (by omega) (by omega), ?_⟩
    | fail) <;> conv => whnf)
  refine ⟨.inl rfl, ?_⟩
  conv => whnf
  refine ⟨[], ⟨rfl, trivial⟩, ?_, rfl, rfl⟩
  conv => whnf
  left
  conv => lhs; whnf

end Go.Proofs.Ytpfbkblgefddlaa.Ct
