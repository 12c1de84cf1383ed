/- ShelfGet, the reference's and the program's. -/
import Derived.Test.YtpfbkblgefddlaaCtShelf2
import Derived.Test.YtpfbkblgefddlaaCtShelfO
namespace Go.Proofs.Ytpfbkblgefddlaa.Ct
set_option linter.unusedSimpArgs false
set_option linter.unusedVariables false
open Go Go.Proofs Go.Proofs.Ytpfbkblgefddlaa.Av

def c_spec_l17Find : ICode := (.seq (.reg [⟨(some 4), .mv, [(.c (.int .i64 0))], none⟩]) (.seq (.seq (.reg [⟨(some 5), .mv, [(.c (.int .i64 0))], none⟩]) (.block 0 (.loop (.seq (.seq (.reg [⟨(some 6), .mv, [(.t 5)], none⟩, ⟨(some 7), .mv, [(.t 0)], none⟩, ⟨(some 8), .len, [(.t 7)], none⟩, ⟨(some 9), (.bin .lss), [(.t 6), (.t 8)], none⟩]) (.cond (.t 9) .skip (.exit 0))) (.seq (.block 1 (.seq (.reg [⟨(some 12), .mv, [(.t 0)], none⟩, ⟨(some 13), .mv, [(.t 5)], none⟩, ⟨(some 14), (.iadr 5), [(.t 12), (.t 13)], none⟩, ⟨(some 15), (.fadr 0), [(.t 14)], none⟩, ⟨(some 16), .ld1, [(.t 15)], none⟩, ⟨(some 17), .mv, [(.t 1)], none⟩, ⟨(some 18), (.bin .eql), [(.t 16), (.t 17)], none⟩]) (.cond (.t 18) (.seq (.reg [⟨(some 19), .mv, [(.t 5)], none⟩, ⟨(some 4), .mv, [(.t 19)], none⟩]) .ret) .skip))) (.reg [⟨(some 10), .mv, [(.t 5)], none⟩, ⟨(some 11), (.bin .add), [(.t 10), (.c (.int .i64 1))], none⟩, ⟨(some 5), .mv, [(.t 11)], none⟩])))))) (.seq (.reg [⟨(some 4), .mv, [(.c (.int .i64 (-1)))], none⟩]) .ret)))
theorem b_spec_l17Find : Body Try.prog 88 20 c_spec_l17Find [(.t 4)] := by
  have h1 : comp Try.prog 20 (Try.f88.body.getD .skip) = some c_spec_l17Find := by kernel_rfl
  have h2 : Try.f88.body = some (Try.f88.body.getD .skip) := by kernel_rfl
  have h3 : Try.f88.results.toList.map (cRes Try.prog) = [(some (.t 4))] := by kernel_rfl
  exact ⟨_, _, Try.func88, h2, Try.ntmps88, h1, h3, by decide⟩

def c_spec_l4Copy : ICode := (.seq (.reg [⟨(some 1), (.box 4), [(.t 0)], none⟩, ⟨(some 2), (.alc [(.int .i64 0), (.int .i64 0), (.int .i64 0), .snil]), [], none⟩]) (.seq (.reg [⟨(some 3), .bsle, [], none⟩, ⟨(some 4), (.fadr 3), [(.t 1)], none⟩, ⟨(some 5), .ld1, [(.t 4)], none⟩, ⟨(some 6), (.app 4 32), [(.t 3), (.t 5)], none⟩, ⟨(some 7), (.fadr 3), [(.t 1)], none⟩, ⟨none, (.st 1), [(.t 7), (.t 6)], none⟩]) (.seq (.reg [⟨(some 8), (.ldn 4), [(.t 1)], none⟩, ⟨none, (.st 4), [(.t 2), (.t 8)], none⟩]) .ret)))
theorem b_spec_l4Copy : Body Try.prog 89 9 c_spec_l4Copy [(.cn 2 4)] := by
  have h1 : comp Try.prog 9 (Try.f89.body.getD .skip) = some c_spec_l4Copy := by kernel_rfl
  have h2 : Try.f89.body = some (Try.f89.body.getD .skip) := by kernel_rfl
  have h3 : Try.f89.results.toList.map (cRes Try.prog) = [(some (.cn 2 4))] := by kernel_rfl
  exact ⟨_, _, Try.func89, h2, Try.ntmps89, h1, h3, by decide⟩

def c_spec_ShelfGet : ICode := (.seq (.reg [⟨(some 4), (.alc [(.int .i64 0), (.int .i64 0), (.int .i64 0), .snil]), [], none⟩, ⟨(some 5), .mv, [(.c (.bool false))], none⟩]) (.seq (.reg [⟨(some 7), .mv, [(.t 0)], none⟩, ⟨(some 8), .mv, [(.t 1)], none⟩, ⟨(some 9), (.call 88), [(.t 7), (.t 8)], none⟩, ⟨(some 6), .mv, [(.t 9)], none⟩]) (.seq (.seq (.reg [⟨(some 10), .mv, [(.t 6)], none⟩, ⟨(some 11), (.bin .lss), [(.t 10), (.c (.int .i64 0))], none⟩, ⟨(some 12), .mv, [(.t 11)], none⟩, ⟨(some 13), .mv, [(.t 0)], (some (12, false))⟩, ⟨(some 14), (.call 19), [(.t 13)], (some (12, false))⟩, ⟨(some 15), .not, [(.t 14)], (some (12, false))⟩, ⟨(some 16), .pick, [(.t 12), (.c (.bool true)), (.t 15)], none⟩]) (.cond (.t 16) (.seq (.reg [⟨(some 17), (.bld [(.int .i64 0), (.int .i64 0), (.int .i64 0), .snil] []), [], none⟩, ⟨none, (.st 4), [(.t 4), (.t 17)], none⟩, ⟨(some 5), .mv, [(.c (.bool false))], none⟩]) .ret) .skip)) (.seq (.reg [⟨(some 18), .mv, [(.t 0)], none⟩, ⟨(some 19), .mv, [(.t 6)], none⟩, ⟨(some 20), (.iadr 5), [(.t 18), (.t 19)], none⟩, ⟨(some 21), (.fadr 1), [(.t 20)], none⟩, ⟨(some 22), (.ldn 4), [(.t 21)], none⟩, ⟨(some 23), (.call 89), [(.t 22)], none⟩, ⟨none, (.st 4), [(.t 4), (.t 23)], none⟩, ⟨(some 5), .mv, [(.c (.bool true))], none⟩]) .ret))))
theorem b_spec_ShelfGet : Body Try.prog 32 24 c_spec_ShelfGet [(.cn 4 4), (.t 5)] := by
  have h1 : comp Try.prog 24 (Try.f32.body.getD .skip) = some c_spec_ShelfGet := by kernel_rfl
  have h2 : Try.f32.body = some (Try.f32.body.getD .skip) := by kernel_rfl
  have h3 : Try.f32.results.toList.map (cRes Try.prog) = [(some (.cn 4 4)), (some (.t 5))] := by kernel_rfl
  exact ⟨_, _, Try.func32, h2, Try.ntmps32, h1, h3, by decide⟩

def c_impl_shelfAt : ICode := (.seq (.reg [⟨(some 4), .mv, [(.c (.int .i64 0))], none⟩, ⟨(some 5), .mv, [(.c (.bool false))], none⟩]) (.seq (.reg [⟨(some 6), .mv, [(.c (.int .i64 0))], none⟩]) (.seq (.block 0 (.loop (.seq (.seq (.reg [⟨(some 7), .mv, [(.t 6)], none⟩, ⟨(some 8), .mv, [(.t 0)], none⟩, ⟨(some 9), .len, [(.t 8)], none⟩, ⟨(some 10), (.bin .lss), [(.t 7), (.t 9)], none⟩, ⟨(some 11), .mv, [(.t 10)], none⟩, ⟨(some 12), .mv, [(.t 0)], (some (11, true))⟩, ⟨(some 13), .mv, [(.t 6)], (some (11, true))⟩, ⟨(some 14), (.iadr 5), [(.t 12), (.t 13)], (some (11, true))⟩, ⟨(some 15), (.fadr 0), [(.t 14)], (some (11, true))⟩, ⟨(some 16), .ld1, [(.t 15)], (some (11, true))⟩, ⟨(some 17), .mv, [(.t 1)], (some (11, true))⟩, ⟨(some 18), (.bin .lss), [(.t 16), (.t 17)], (some (11, true))⟩, ⟨(some 19), .pick, [(.t 11), (.t 18), (.c (.bool false))], none⟩]) (.cond (.t 19) .skip (.exit 0))) (.block 1 (.reg [⟨(some 20), .mv, [(.t 6)], none⟩, ⟨(some 21), (.bin .add), [(.t 20), (.c (.int .i64 1))], none⟩, ⟨(some 6), .mv, [(.t 21)], none⟩]))))) (.seq (.drw [⟨(some 22), .mv, [(.t 6)], none⟩, ⟨(some 23), .mv, [(.t 6)], none⟩, ⟨(some 24), .mv, [(.t 0)], none⟩, ⟨(some 25), .len, [(.t 24)], none⟩, ⟨(some 26), (.bin .lss), [(.t 23), (.t 25)], none⟩, ⟨(some 27), .mv, [(.t 26)], none⟩, ⟨(some 28), .mv, [(.t 0)], (some (27, true))⟩, ⟨(some 29), .mv, [(.t 6)], (some (27, true))⟩, ⟨(some 30), (.iadr 5), [(.t 28), (.t 29)], (some (27, true))⟩, ⟨(some 31), (.fadr 0), [(.t 30)], (some (27, true))⟩, ⟨(some 32), .ld1, [(.t 31)], (some (27, true))⟩, ⟨(some 33), .mv, [(.t 1)], (some (27, true))⟩, ⟨(some 34), (.bin .eql), [(.t 32), (.t 33)], (some (27, true))⟩, ⟨(some 35), .pick, [(.t 27), (.t 34), (.c (.bool false))], none⟩, ⟨(some 4), .mv, [(.t 22)], none⟩, ⟨(some 5), .mv, [(.t 35)], none⟩] [[], [], [], [2], [1, 2, 3], [1, 2, 3, 4], [1, 2, 3, 4, 5], [1, 2, 3, 4, 5], [1, 2, 3, 4, 5, 6, 7], [1, 2, 3, 4, 5, 6, 7, 8], [1, 2, 3, 4, 5, 6, 7, 8, 9], [1, 2, 3, 4, 5], [1, 2, 3, 4, 5, 6, 7, 8, 9, 10, 11], [1, 2, 3, 4, 5, 6, 7, 8, 9, 10, 11, 12], [0, 1, 2, 3, 4, 5], [0, 1, 2, 3, 4, 5, 6, 7, 8, 9, 10, 11, 12, 13, 14]] true true) .ret))))
theorem b_impl_shelfAt : Body Try.prog 90 36 c_impl_shelfAt [(.t 4), (.t 5)] := by
  have h1 : comp Try.prog 36 (Try.f90.body.getD .skip) = some c_impl_shelfAt := by kernel_rfl
  have h2 : Try.f90.body = some (Try.f90.body.getD .skip) := by kernel_rfl
  have h3 : Try.f90.results.toList.map (cRes Try.prog) = [(some (.t 4)), (some (.t 5))] := by kernel_rfl
  exact ⟨_, _, Try.func90, h2, Try.ntmps90, h1, h3, by decide⟩

def c_slices_Clone_impl_Edge_impl_Edge : ICode := (.seq (.reg [⟨(some 2), .mv, [(.c .snil)], none⟩]) (.seq (.seq (.reg [⟨(some 3), .mv, [(.t 0)], none⟩, ⟨(some 4), (.bnil false), [(.t 3)], none⟩]) (.cond (.t 4) (.seq (.reg [⟨(some 2), .mv, [(.c .snil)], none⟩]) .ret) .skip)) (.seq (.reg [⟨(some 5), .bsle, [], none⟩, ⟨(some 6), .mv, [(.t 0)], none⟩, ⟨(some 7), (.app 4 32), [(.t 5), (.t 6)], none⟩, ⟨(some 2), .mv, [(.t 7)], none⟩]) .ret)))
theorem b_slices_Clone_impl_Edge_impl_Edge : Body Try.prog 142 8 c_slices_Clone_impl_Edge_impl_Edge [(.t 2)] := by
  have h1 : comp Try.prog 8 (Try.f142.body.getD .skip) = some c_slices_Clone_impl_Edge_impl_Edge := by kernel_rfl
  have h2 : Try.f142.body = some (Try.f142.body.getD .skip) := by kernel_rfl
  have h3 : Try.f142.results.toList.map (cRes Try.prog) = [(some (.t 2))] := by kernel_rfl
  exact ⟨_, _, Try.func142, h2, Try.ntmps142, h1, h3, by decide⟩

def c_impl_copyAuto : ICode := (.seq (.reg [⟨(some 1), (.box 4), [(.t 0)], none⟩, ⟨(some 2), (.alc [(.int .i64 0), (.int .i64 0), (.int .i64 0), .snil]), [], none⟩]) (.seq (.reg [⟨(some 3), (.fadr 3), [(.t 1)], none⟩, ⟨(some 4), .ld1, [(.t 3)], none⟩, ⟨(some 5), (.call 142), [(.t 4)], none⟩, ⟨(some 6), (.fadr 3), [(.t 1)], none⟩, ⟨none, (.st 1), [(.t 6), (.t 5)], none⟩]) (.seq (.reg [⟨(some 7), (.ldn 4), [(.t 1)], none⟩, ⟨none, (.st 4), [(.t 2), (.t 7)], none⟩]) .ret)))
theorem b_impl_copyAuto : Body Try.prog 91 8 c_impl_copyAuto [(.cn 2 4)] := by
  have h1 : comp Try.prog 8 (Try.f91.body.getD .skip) = some c_impl_copyAuto := by kernel_rfl
  have h2 : Try.f91.body = some (Try.f91.body.getD .skip) := by kernel_rfl
  have h3 : Try.f91.results.toList.map (cRes Try.prog) = [(some (.cn 2 4))] := by kernel_rfl
  exact ⟨_, _, Try.func91, h2, Try.ntmps91, h1, h3, by decide⟩

def c_impl_ShelfGet : ICode := (.seq (.reg [⟨(some 4), (.alc [(.int .i64 0), (.int .i64 0), (.int .i64 0), .snil]), [], none⟩, ⟨(some 5), .mv, [(.c (.bool false))], none⟩]) (.seq (.reg [⟨(some 9), .mv, [(.t 0)], none⟩, ⟨(some 10), .mv, [(.t 1)], none⟩, ⟨(some 11), (.call 90), [(.t 9), (.t 10)], none⟩, ⟨(some 8), .mv, [(.t 11)], none⟩, ⟨(some 12), (.ext 0), [(.t 8)], none⟩, ⟨(some 13), (.ext 1), [(.t 8)], none⟩, ⟨(some 6), .mv, [(.t 12)], none⟩, ⟨(some 7), .mv, [(.t 13)], none⟩]) (.seq (.seq (.reg [⟨(some 14), .mv, [(.t 7)], none⟩, ⟨(some 15), .not, [(.t 14)], none⟩, ⟨(some 16), .mv, [(.t 15)], none⟩, ⟨(some 17), .mv, [(.t 0)], (some (16, false))⟩, ⟨(some 18), (.call 21), [(.t 17)], (some (16, false))⟩, ⟨(some 19), .not, [(.t 18)], (some (16, false))⟩, ⟨(some 20), .pick, [(.t 16), (.c (.bool true)), (.t 19)], none⟩]) (.cond (.t 20) (.seq (.reg [⟨(some 21), (.bld [(.int .i64 0), (.int .i64 0), (.int .i64 0), .snil] []), [], none⟩, ⟨none, (.st 4), [(.t 4), (.t 21)], none⟩, ⟨(some 5), .mv, [(.c (.bool false))], none⟩]) .ret) .skip)) (.seq (.reg [⟨(some 22), .mv, [(.t 0)], none⟩, ⟨(some 23), .mv, [(.t 6)], none⟩, ⟨(some 24), (.iadr 5), [(.t 22), (.t 23)], none⟩, ⟨(some 25), (.fadr 1), [(.t 24)], none⟩, ⟨(some 26), (.ldn 4), [(.t 25)], none⟩, ⟨(some 27), (.call 91), [(.t 26)], none⟩, ⟨none, (.st 4), [(.t 4), (.t 27)], none⟩, ⟨(some 5), .mv, [(.c (.bool true))], none⟩]) .ret))))
theorem b_impl_ShelfGet : Body Try.prog 33 28 c_impl_ShelfGet [(.cn 4 4), (.t 5)] := by
  have h1 : comp Try.prog 28 (Try.f33.body.getD .skip) = some c_impl_ShelfGet := by kernel_rfl
  have h2 : Try.f33.body = some (Try.f33.body.getD .skip) := by kernel_rfl
  have h3 : Try.f33.results.toList.map (cRes Try.prog) = [(some (.cn 4 4)), (some (.t 5))] := by kernel_rfl
  exact ⟨_, _, Try.func33, h2, Try.ntmps33, h1, h3, by decide⟩


/-- the first of the first n that is so, or n -/
noncomputable def firstN (p : Nat → Prop) (n : Nat) : Nat := Classical.choose (least_of (p := fun i => i = n ∨ p i) ⟨n, .inl rfl⟩)

theorem firstN_eq {p : Nat → Prop} {n i : Nat} (hi : i ≤ n) (h : i = n ∨ p i) (hl : ∀ j, j < i → ¬ p j) : firstN p n = i := by
  obtain ⟨h1, h2⟩ := Classical.choose_spec (least_of (p := fun i => i = n ∨ p i) ⟨n, .inl rfl⟩)
  have h3 : firstN p n ≤ i := h2 i h
  have h4 : firstN p n = n ∨ p (firstN p n) := h1
  rcases Nat.lt_or_ge (firstN p n) i with h5 | h5
  · rcases h4 with h4 | h4
    · omega
    · exact absurd h4 (hl _ h5)
  · omega

noncomputable def findN (l : List NamedD) (name : Int) : Nat := firstN (fun j => (l.getD j default).name = name) l.length
noncomputable def atN (l : List NamedD) (name : Int) : Nat := firstN (fun j => name ≤ (l.getD j default).name) l.length
noncomputable def findI (l : List NamedD) (name : Int) : Int := if findN l name < l.length then findN l name else -1

theorem findI_hit {l : List NamedD} {name : Int} {i : Nat} (hi : i < l.length) (h : (l.getD i default).name = name) (hl : ∀ j, j < i → (l.getD j default).name ≠ name) : findI l name = i := by
  have : findN l name = i := firstN_eq (by omega) (.inr h) hl
  rw [findI, this, if_pos hi]
theorem findI_miss {l : List NamedD} {name : Int} (hl : ∀ j, j < l.length → (l.getD j default).name ≠ name) : findI l name = -1 := by
  have : findN l name = l.length := firstN_eq (by omega) (.inl rfl) hl
  rw [findI, this, if_neg (by omega)]

def RFind (xs : List AV) (r : AV) (objs : List AObj) : Prop := ∃ l name, xs = [.val (namedRows l), .int .i64 name] ∧ l.length ≤ 1048576 ∧ r = .int .i64 (findI l name) ∧ objs = []
theorem RFind_mk {l : List NamedD} {name : Int} (h : l.length ≤ 1048576) : RFind [.val (namedRows l), .int .i64 name] (.int .i64 (findI l name)) [] := ⟨l, name, rfl, h, rfl, rfl⟩

theorem s_spec_l17Find : PureSound Try.prog 88 RFind := by
  have hR : Rely Try.prog (ctxOf []) := rely_nil mixed
  refine pure_of_aw b_spec_l17Find ?_
  rintro xs r objs ⟨l, name, rfl, h1, rfl, rfl⟩ -
  have hle := length_namedRows l
  refine ⟨by simp, vc2_sound hR _ _ _ _ _ ?_⟩
  conv => whnf
  repeat' (first
    | contradiction
    | (refine And.intro (fun hb => ?_) (fun hb => ?_) <;> first | contradiction | skip
       all_goals (try simp only [decide_eq_true_eq, decide_eq_false_iff_not, Bool.not_eq_true', Bool.not_eq_false', Bool.not_not, ne_eq, length_ints, List.length_map, beq_iff_eq, bne_iff_ne, beq_eq_false_iff_ne, bne_eq_false_iff_eq, Int.not_le, Int.not_lt, ge_iff_le, gt_iff_lt, reduceCtorEq, not_false_eq_true, not_true_eq_false, Bool.false_eq_true, Bool.true_eq_false] at hb)
       all_goals (try (exfalso; first | contradiction | omega))
       all_goals conv => whnf)
    | (refine And.intro (live_all rfl) ?_; conv => whnf)
    | (refine And.intro rfl ?_; conv => whnf)
    | (refine ⟨_, IntWalk.i64_in _ (by omega), ?_⟩; conv => whnf)
    | (refine And.intro (okcs_all rfl) ?_; conv => whnf)
    | (refine And.intro (okvs_all rfl) ?_; conv => whnf)
    | (refine And.intro (frees_all rfl) ?_; conv => whnf)
    | (refine And.intro (bsl_all rfl) ?_; conv => whnf)
    | (refine And.intro (clen_all rfl) ?_; conv => whnf)
    | (refine And.intro (lens_all rfl) ?_; conv => whnf)
    | (refine And.intro (Nat.le_of_ble_eq_true rfl) ?_; conv => whnf)
    | (rw [ints_at (by omega)]; conv => whnf)
    | (rw [ints_at0 (by omega)]; conv => whnf)
    | (rw [ints_at' (by omega) (by omega)]; conv => whnf)
    | (refine And.intro (show (_ + 1) * _ ≤ _ by omega) ?_; conv => whnf)
    | (refine And.intro (show _ + 1 ≤ _ by omega) ?_; conv => whnf)
    | (refine And.intro (by first | omega | (simp only [length_ints]; omega)) ?_; conv => whnf)
    | fail)
  refine Lp.intro (α := Nat) (fun i => i ≤ l.length ∧ ∀ j, j < i → (l.getD j default).name ≠ name) (fun i => l.length - i) (fun i => [(0, .val (namedRows l)), (1, .int .i64 name), (5, .int .i64 i)]) (fun _ => []) ?_ ?_
  · refine ⟨0, ⟨by omega, by omega⟩, [], rfl, rfl, trivial, ?_⟩
    repeat' (first
      | exact trivial
      | refine ⟨?_, ?_⟩
      | fail)
    all_goals first
      | with_reducible rfl
      | (conv => whnf
         try left
         conv => lhs; whnf
         first
           | rfl
           | exact congrArg (AV.int .i64) (by omega)
           | skip)
  · rintro i ⟨hi, hall⟩
    refine vc2_sound hR _ _ _ _ _ ?_
    conv => whnf
    repeat' (first
      | contradiction
      | (refine And.intro (fun hb => ?_) (fun hb => ?_) <;> first | contradiction | skip
         all_goals (try simp only [decide_eq_true_eq, decide_eq_false_iff_not, Bool.not_eq_true', Bool.not_eq_false', Bool.not_not, ne_eq, length_ints, List.length_map, beq_iff_eq, bne_iff_ne, beq_eq_false_iff_ne, bne_eq_false_iff_eq, Int.not_le, Int.not_lt, ge_iff_le, gt_iff_lt, reduceCtorEq, not_false_eq_true, not_true_eq_false, Bool.false_eq_true, Bool.true_eq_false] at hb)
         all_goals (try (exfalso; first | contradiction | omega))
         all_goals conv => whnf)
      | (refine And.intro (live_all rfl) ?_; conv => whnf)
      | (refine And.intro rfl ?_; conv => whnf)
      | (refine ⟨_, IntWalk.i64_in _ (by omega), ?_⟩; conv => whnf)
      | (refine And.intro (okcs_all rfl) ?_; conv => whnf)
      | (refine And.intro (okvs_all rfl) ?_; conv => whnf)
      | (refine And.intro (frees_all rfl) ?_; conv => whnf)
      | (refine And.intro (bsl_all rfl) ?_; conv => whnf)
      | (refine And.intro (clen_all rfl) ?_; conv => whnf)
      | (refine And.intro (lens_all rfl) ?_; conv => whnf)
      | (refine And.intro (Nat.le_of_ble_eq_true rfl) ?_; conv => whnf)
      | (rw [ints_at (by omega)]; conv => whnf)
      | (rw [ints_at0 (by omega)]; conv => whnf)
      | (rw [ints_at' (by omega) (by omega)]; conv => whnf)
      | (refine And.intro (show (_ + 1) * _ ≤ _ by omega) ?_; conv => whnf)
      | (refine And.intro (show _ + 1 ≤ _ by omega) ?_; conv => whnf)
      | (refine And.intro (by first | omega | (simp only [length_ints]; omega)) ?_; conv => whnf)
      | (rw [named_at (by omega)]; conv => whnf)
      | fail)
    · refine ⟨.inl rfl, ?_⟩
      conv => whnf
      refine ⟨[], ⟨rfl, trivial⟩, ?_, rfl, rfl⟩
      conv => whnf
      left
      conv => lhs; whnf
      exact congrArg (AV.int .i64) (findI_hit (by omega) hb hall).symm
    · refine ⟨i + 1, ⟨by omega, fun j hj => ?_⟩, by omega, [], rfl, rfl, trivial, ?_⟩
      · by_cases hji : j = i
        · subst hji; exact hb
        · exact hall j (by omega)
      · repeat' (first
          | exact trivial
          | refine ⟨?_, ?_⟩
          | fail)
        all_goals first
          | with_reducible rfl
          | (conv => whnf
             try left
             conv => lhs; whnf
             first
               | rfl
               | exact congrArg (AV.int .i64) (by omega)
               | skip)
    · refine ⟨.inl rfl, ?_⟩
      conv => whnf
      refine ⟨[], ⟨rfl, trivial⟩, ?_, rfl, rfl⟩
      conv => whnf
      left
      conv => lhs; whnf
      exact congrArg (AV.int .i64) (findI_miss (fun j hj => hall j (by omega))).symm

def RAt (xs : List AV) (r : AV) (objs : List AObj) : Prop := ∃ l name, xs = [.val (namedRows l), .int .i64 name] ∧ l.length ≤ 1048576 ∧
  r = .tup [.int .i64 (atN l name), .bool (decide (atN l name < l.length ∧ (l.getD (atN l name) default).name = name))] ∧ objs = []
theorem RAt_mk {l : List NamedD} {name : Int} (h : l.length ≤ 1048576) : RAt [.val (namedRows l), .int .i64 name]
  (.tup [.int .i64 (atN l name), .bool (decide (atN l name < l.length ∧ (l.getD (atN l name) default).name = name))]) [] := ⟨l, name, rfl, h, rfl, rfl⟩

theorem s_impl_shelfAt : PureSound Try.prog 90 RAt := by
  have hR : Rely Try.prog (ctxOf []) := rely_nil mixed
  refine pure_of_aw b_impl_shelfAt ?_
  rintro xs r objs ⟨l, name, rfl, h1, rfl, rfl⟩ -
  have hle := length_namedRows l
  refine ⟨by simp, vc2_sound hR _ _ _ _ _ ?_⟩
  conv => whnf
  repeat' (first
    | contradiction
    | (refine And.intro (fun hb => ?_) (fun hb => ?_) <;> first | contradiction | skip
       all_goals (try simp only [decide_eq_true_eq, decide_eq_false_iff_not, Bool.not_eq_true', Bool.not_eq_false', Bool.not_not, ne_eq, length_ints, List.length_map, beq_iff_eq, bne_iff_ne, beq_eq_false_iff_ne, bne_eq_false_iff_eq, Int.not_le, Int.not_lt, ge_iff_le, gt_iff_lt, reduceCtorEq, not_false_eq_true, not_true_eq_false, Bool.false_eq_true, Bool.true_eq_false] at hb)
       all_goals (try (exfalso; first | contradiction | omega))
       all_goals conv => whnf)
    | (refine And.intro (live_all rfl) ?_; conv => whnf)
    | (refine And.intro rfl ?_; conv => whnf)
    | (refine ⟨_, IntWalk.i64_in _ (by omega), ?_⟩; conv => whnf)
    | (refine And.intro (okcs_all rfl) ?_; conv => whnf)
    | (refine And.intro (okvs_all rfl) ?_; conv => whnf)
    | (refine And.intro (frees_all rfl) ?_; conv => whnf)
    | (refine And.intro (bsl_all rfl) ?_; conv => whnf)
    | (refine And.intro (clen_all rfl) ?_; conv => whnf)
    | (refine And.intro (lens_all rfl) ?_; conv => whnf)
    | (refine And.intro (Nat.le_of_ble_eq_true rfl) ?_; conv => whnf)
    | (rw [ints_at (by omega)]; conv => whnf)
    | (rw [ints_at0 (by omega)]; conv => whnf)
    | (rw [ints_at' (by omega) (by omega)]; conv => whnf)
    | (refine And.intro (show (_ + 1) * _ ≤ _ by omega) ?_; conv => whnf)
    | (refine And.intro (show _ + 1 ≤ _ by omega) ?_; conv => whnf)
    | (refine And.intro (by first | omega | (simp only [length_ints]; omega)) ?_; conv => whnf)
    | fail)
  refine Lp.intro (α := Nat) (fun i => i ≤ l.length ∧ ∀ j, j < i → ¬ name ≤ (l.getD j default).name) (fun i => l.length - i) (fun i => [(0, .val (namedRows l)), (1, .int .i64 name), (6, .int .i64 i)]) (fun _ => []) ?_ ?_
  · refine ⟨0, ⟨by omega, by omega⟩, [], rfl, rfl, trivial, ?_⟩
    repeat' (first
      | exact trivial
      | refine ⟨?_, ?_⟩
      | fail)
    all_goals first
      | with_reducible rfl
      | (conv => whnf
         try left
         conv => lhs; whnf
         first
           | rfl
           | exact congrArg (AV.int .i64) (by omega)
           | skip)
  · rintro i ⟨hi, hall⟩
    refine vc2_sound hR _ _ _ _ _ ?_
    conv => whnf
    repeat' (first
      | contradiction
      | (refine And.intro (fun hb => ?_) (fun hb => ?_) <;> first | contradiction | skip
         all_goals (try simp only [decide_eq_true_eq, decide_eq_false_iff_not, Bool.not_eq_true', Bool.not_eq_false', Bool.not_not, ne_eq, length_ints, List.length_map, beq_iff_eq, bne_iff_ne, beq_eq_false_iff_ne, bne_eq_false_iff_eq, Int.not_le, Int.not_lt, ge_iff_le, gt_iff_lt, reduceCtorEq, not_false_eq_true, not_true_eq_false, Bool.false_eq_true, Bool.true_eq_false] at hb)
         all_goals (try (exfalso; first | contradiction | omega))
         all_goals conv => whnf)
      | (refine And.intro (live_all rfl) ?_; conv => whnf)
      | (refine And.intro rfl ?_; conv => whnf)
      | (refine ⟨_, IntWalk.i64_in _ (by omega), ?_⟩; conv => whnf)
      | (refine And.intro (okcs_all rfl) ?_; conv => whnf)
      | (refine And.intro (okvs_all rfl) ?_; conv => whnf)
      | (refine And.intro (frees_all rfl) ?_; conv => whnf)
      | (refine And.intro (bsl_all rfl) ?_; conv => whnf)
      | (refine And.intro (clen_all rfl) ?_; conv => whnf)
      | (refine And.intro (lens_all rfl) ?_; conv => whnf)
      | (refine And.intro (Nat.le_of_ble_eq_true rfl) ?_; conv => whnf)
      | (rw [ints_at (by omega)]; conv => whnf)
      | (rw [ints_at0 (by omega)]; conv => whnf)
      | (rw [ints_at' (by omega) (by omega)]; conv => whnf)
      | (refine And.intro (show (_ + 1) * _ ≤ _ by omega) ?_; conv => whnf)
      | (refine And.intro (show _ + 1 ≤ _ by omega) ?_; conv => whnf)
      | (refine And.intro (by first | omega | (simp only [length_ints]; omega)) ?_; conv => whnf)
      | (rw [named_at (by omega)]; conv => whnf)
      | fail)
    · refine ⟨i + 1, ⟨by omega, fun j hj => ?_⟩, by omega, [], rfl, rfl, trivial, ?_⟩
      · by_cases hji : j = i
        · subst hji; omega
        · exact hall j (by omega)
      · repeat' (first
          | exact trivial
          | refine ⟨?_, ?_⟩
          | fail)
        all_goals first
          | with_reducible rfl
          | (conv => whnf
             try left
             conv => lhs; whnf
             first
               | rfl
               | exact congrArg (AV.int .i64) (by omega)
               | skip)
    · have hat : atN l name = i := firstN_eq hi (.inr (by omega)) hall
      rw [hat, decide_eq_true (p := i < l.length ∧ (l.getD i default).name = name) ⟨by omega, by assumption⟩]
      refine ⟨.inl rfl, ?_⟩
      conv => whnf
      refine ⟨[], ⟨rfl, trivial⟩, ?_, rfl, rfl⟩
      repeat' (first | exact trivial | refine And.intro ?_ ?_)
      all_goals
        conv => whnf
        left
        conv => lhs; whnf
      all_goals rfl
    · have hat : atN l name = i := firstN_eq hi (.inr (by omega)) hall
      rw [hat, decide_eq_false (p := i < l.length ∧ (l.getD i default).name = name) (fun h => absurd h.2 (by assumption))]
      refine ⟨.inl rfl, ?_⟩
      conv => whnf
      refine ⟨[], ⟨rfl, trivial⟩, ?_, rfl, rfl⟩
      repeat' (first | exact trivial | refine And.intro ?_ ?_)
      all_goals
        conv => whnf
        left
        conv => lhs; whnf
      all_goals rfl
    · have hat : atN l name = i := firstN_eq hi (.inl (by omega)) hall
      rw [hat, decide_eq_false (p := i < l.length ∧ (l.getD i default).name = name) (fun h => by omega)]
      refine ⟨.inl rfl, ?_⟩
      conv => whnf
      refine ⟨[], ⟨rfl, trivial⟩, ?_, rfl, rfl⟩
      repeat' (first | exact trivial | refine And.intro ?_ ?_)
      all_goals
        conv => whnf
        left
        conv => lhs; whnf
      all_goals rfl

theorem edges_novs (l : List EdgeD) : [AObj.arr 4 (edgeRows l)].all AObj.nov = true := by simp [AObj.nov, edgeRows_nov]

def RClone (xs : List AV) (r : AV) (objs : List AObj) : Prop := ∃ l, xs = [.val (edgeRows l)] ∧ l.length ≤ 1048576 ∧ r = .ref 0 0 l.length ∧ objs = [.arr 4 (edgeRows l)]
theorem RClone_mk {l : List EdgeD} (h : l.length ≤ 1048576) : RClone [.val (edgeRows l)] (.ref 0 0 l.length) [.arr 4 (edgeRows l)] := ⟨l, rfl, h, rfl, rfl⟩

theorem edgeRows_len {l : List EdgeD} : ∀ r ∈ edgeRows l, r.length = 4 := by
  intro r hr
  obtain ⟨x, _, rfl⟩ := List.mem_map.1 hr
  rfl

theorem s_slices_Clone : PureSound Try.prog 142 RClone := by
  have hR : Rely Try.prog (ctxOf []) := rely_nil mixed
  refine pure_of_aw b_slices_Clone_impl_Edge_impl_Edge ?_
  rintro xs r objs ⟨l, rfl, h1, rfl, rfl⟩ -
  have hle := length_edgeRows l
  refine ⟨by simp, vc2_sound hR _ _ _ _ _ ?_⟩
  conv => whnf
  repeat' (first
    | contradiction
    | (refine And.intro (fun hb => ?_) (fun hb => ?_) <;> first | contradiction | skip
       all_goals (try simp only [decide_eq_true_eq, decide_eq_false_iff_not, Bool.not_eq_true', Bool.not_eq_false', Bool.not_not, ne_eq, length_ints, List.length_map, beq_iff_eq, bne_iff_ne, beq_eq_false_iff_ne, bne_eq_false_iff_eq, Int.not_le, Int.not_lt, ge_iff_le, gt_iff_lt, reduceCtorEq, not_false_eq_true, not_true_eq_false, Bool.false_eq_true, Bool.true_eq_false] at hb)
       all_goals (try (exfalso; first | contradiction | omega))
       all_goals conv => whnf)
    | (refine And.intro (live_all rfl) ?_; conv => whnf)
    | (refine And.intro rfl ?_; conv => whnf)
    | (refine ⟨_, IntWalk.i64_in _ (by omega), ?_⟩; conv => whnf)
    | (refine And.intro (okcs_all rfl) ?_; conv => whnf)
    | (refine And.intro (okvs_all rfl) ?_; conv => whnf)
    | (refine And.intro (frees_all rfl) ?_; conv => whnf)
    | (refine And.intro (bsl_all rfl) ?_; conv => whnf)
    | (refine And.intro (clen_all rfl) ?_; conv => whnf)
    | (refine And.intro (lens_all rfl) ?_; conv => whnf)
    | (refine And.intro (Nat.le_of_ble_eq_true rfl) ?_; conv => whnf)
    | (rw [ints_at (by omega)]; conv => whnf)
    | (rw [ints_at0 (by omega)]; conv => whnf)
    | (rw [ints_at' (by omega) (by omega)]; conv => whnf)
    | (refine And.intro (show (_ + 1) * _ ≤ _ by omega) ?_; conv => whnf)
    | (refine And.intro (show _ + 1 ≤ _ by omega) ?_; conv => whnf)
    | (refine And.intro (by first | omega | (simp only [length_ints]; omega)) ?_; conv => whnf)
    | (refine And.intro edgeRows_len ?_; conv => whnf)
    | fail)
  · have hl : l = [] := by simpa [edgeRows] using hb
    subst hl
    refine ⟨.inl rfl, ?_⟩
    conv => whnf
    exact ⟨[none], ⟨rfl, And.intro rfl trivial⟩, ⟨rfl, rfl, rfl⟩, rfl, rfl⟩
  · refine ⟨.inl rfl, ?_⟩
    conv => whnf
    exact ⟨[some 0], ⟨rfl, And.intro (And.intro rfl rfl) trivial⟩, congrArg (AV.ref 0 0) hle, rfl, edges_novs l⟩

def RCopy (xs : List AV) (r : AV) (objs : List AObj) : Prop := ∃ a, xs = [.agg (autoRow a)] ∧ a.edges.length ≤ 1048576 ∧ r = .agg (autoRef 0 a) ∧ objs = [.arr 4 (edgeRows a.edges)]
theorem RCopy_mk {a : AutoD} (h : a.edges.length ≤ 1048576) : RCopy [.agg (autoRow a)] (.agg (autoRef 0 a)) [.arr 4 (edgeRows a.edges)] := ⟨a, rfl, h, rfl, rfl⟩

theorem s_impl_copyAuto : PureSound Try.prog 91 RCopy := by
  have hR : Rely Try.prog (ctxOf [(142, .pure RClone)]) := rely_cons b_slices_Clone_impl_Edge_impl_Edge.has s_slices_Clone (rely_nil mixed)
  refine pure_of_aw b_impl_copyAuto ?_
  rintro xs r objs ⟨x, rfl, hx, rfl, rfl⟩ -
  refine ⟨by simp, vc2_sound hR _ _ _ _ _ ?_⟩
  conv => whnf
  repeat' (first
    | contradiction
    | (refine And.intro (fun hb => ?_) (fun hb => ?_) <;> first | contradiction | skip
       all_goals (try simp only [decide_eq_true_eq, decide_eq_false_iff_not, Bool.not_eq_true', Bool.not_eq_false', Bool.not_not, ne_eq, length_ints, List.length_map, beq_iff_eq, bne_iff_ne, beq_eq_false_iff_ne, bne_eq_false_iff_eq, Int.not_le, Int.not_lt, ge_iff_le, gt_iff_lt, reduceCtorEq, not_false_eq_true, not_true_eq_false, Bool.false_eq_true, Bool.true_eq_false] at hb)
       all_goals (try (exfalso; first | contradiction | omega))
       all_goals conv => whnf)
    | (refine And.intro (live_all rfl) ?_; conv => whnf)
    | (refine And.intro rfl ?_; conv => whnf)
    | (refine ⟨_, IntWalk.i64_in _ (by omega), ?_⟩; conv => whnf)
    | (refine And.intro (okcs_all rfl) ?_; conv => whnf)
    | (refine And.intro (okvs_all rfl) ?_; conv => whnf)
    | (refine And.intro (frees_all rfl) ?_; conv => whnf)
    | (refine And.intro (bsl_all rfl) ?_; conv => whnf)
    | (refine And.intro (clen_all rfl) ?_; conv => whnf)
    | (refine And.intro (lens_all rfl) ?_; conv => whnf)
    | (refine And.intro (Nat.le_of_ble_eq_true rfl) ?_; conv => whnf)
    | (rw [ints_at (by omega)]; conv => whnf)
    | (rw [ints_at0 (by omega)]; conv => whnf)
    | (rw [ints_at' (by omega) (by omega)]; conv => whnf)
    | (refine And.intro (show (_ + 1) * _ ≤ _ by omega) ?_; conv => whnf)
    | (refine And.intro (show _ + 1 ≤ _ by omega) ?_; conv => whnf)
    | (refine And.intro (by first | omega | (simp only [length_ints]; omega)) ?_; conv => whnf)
    | (refine ⟨_, _, RClone_mk hx, ?_⟩; conv => whnf)
    | fail)
  refine ⟨.inl rfl, ?_⟩
  conv => whnf
  refine And.intro (Nat.le_of_ble_eq_true rfl) ?_
  conv => whnf
  exact ⟨[some 2], ⟨rfl, And.intro (And.intro rfl rfl) trivial⟩, And.intro (.inl rfl) (And.intro (.inl rfl) (And.intro (.inl rfl) (And.intro rfl trivial))), rfl, edges_novs _⟩

theorem s_spec_l4Copy : PureSound Try.prog 89 RCopy := by
  have hR : Rely Try.prog (ctxOf []) := rely_nil mixed
  refine pure_of_aw b_spec_l4Copy ?_
  rintro xs r objs ⟨x, rfl, hx, rfl, rfl⟩ -
  have hle := length_edgeRows x.edges
  refine ⟨by simp, vc2_sound hR _ _ _ _ _ ?_⟩
  conv => whnf
  repeat' (first
    | contradiction
    | (refine And.intro (fun hb => ?_) (fun hb => ?_) <;> first | contradiction | skip
       all_goals (try simp only [decide_eq_true_eq, decide_eq_false_iff_not, Bool.not_eq_true', Bool.not_eq_false', Bool.not_not, ne_eq, length_ints, List.length_map, beq_iff_eq, bne_iff_ne, beq_eq_false_iff_ne, bne_eq_false_iff_eq, Int.not_le, Int.not_lt, ge_iff_le, gt_iff_lt, reduceCtorEq, not_false_eq_true, not_true_eq_false, Bool.false_eq_true, Bool.true_eq_false] at hb)
       all_goals (try (exfalso; first | contradiction | omega))
       all_goals conv => whnf)
    | (refine And.intro (live_all rfl) ?_; conv => whnf)
    | (refine And.intro rfl ?_; conv => whnf)
    | (refine ⟨_, IntWalk.i64_in _ (by omega), ?_⟩; conv => whnf)
    | (refine And.intro (okcs_all rfl) ?_; conv => whnf)
    | (refine And.intro (okvs_all rfl) ?_; conv => whnf)
    | (refine And.intro (frees_all rfl) ?_; conv => whnf)
    | (refine And.intro (bsl_all rfl) ?_; conv => whnf)
    | (refine And.intro (clen_all rfl) ?_; conv => whnf)
    | (refine And.intro (lens_all rfl) ?_; conv => whnf)
    | (refine And.intro (Nat.le_of_ble_eq_true rfl) ?_; conv => whnf)
    | (rw [ints_at (by omega)]; conv => whnf)
    | (rw [ints_at0 (by omega)]; conv => whnf)
    | (rw [ints_at' (by omega) (by omega)]; conv => whnf)
    | (refine And.intro (show (_ + 1) * _ ≤ _ by omega) ?_; conv => whnf)
    | (refine And.intro (show _ + 1 ≤ _ by omega) ?_; conv => whnf)
    | (refine And.intro (by first | omega | (simp only [length_ints]; omega)) ?_; conv => whnf)
    | (refine And.intro edgeRows_len ?_; conv => whnf)
    | fail)
  refine ⟨.inl rfl, ?_⟩
  conv => whnf
  refine And.intro (Nat.le_of_ble_eq_true rfl) ?_
  conv => whnf
  exact ⟨[some 2], ⟨rfl, And.intro (And.intro rfl rfl) trivial⟩, And.intro (.inl rfl) (And.intro (.inl rfl) (And.intro (.inl rfl) (And.intro (congrArg (AV.ref 2 0) hle) trivial))), rfl, edges_novs _⟩

def zeroAuto : AutoD := ⟨0, 0, 0, []⟩
open Classical in
/-- what ShelfGet says: the automaton of a name on a right shelf -/
noncomputable def shelfGet (l : List NamedD) (name : Int) : AutoD × Bool := if 0 ≤ findI l name ∧ ShelfOk l then ((l.getD (findI l name).toNat default).auto, true) else (zeroAuto, false)

def RShelfGet (xs : List AV) (r : AV) (objs : List AObj) : Prop := ∃ l name, xs = [.val (namedRows l), .int .i64 name] ∧ l.length ≤ 1048576 ∧ (∀ x ∈ l, x.auto.edges.length ≤ 1048576) ∧
  r = .tup [.agg (autoRef 0 (shelfGet l name).1), .bool (shelfGet l name).2] ∧ objs = [.arr 4 (edgeRows (shelfGet l name).1.edges)]
theorem RShelfGet_mk {l : List NamedD} {name : Int} (h : l.length ≤ 1048576) (h2 : ∀ x ∈ l, x.auto.edges.length ≤ 1048576) : RShelfGet [.val (namedRows l), .int .i64 name]
  (.tup [.agg (autoRef 0 (shelfGet l name).1), .bool (shelfGet l name).2]) [.arr 4 (edgeRows (shelfGet l name).1.edges)] := ⟨l, name, rfl, h, h2, rfl, rfl⟩

theorem findI_range (l : List NamedD) (name : Int) : findI l name = -1 ∨ (0 ≤ findI l name ∧ findI l name < l.length) := by
  unfold findI
  split
  · exact .inr ⟨by omega, by omega⟩
  · exact .inl rfl

theorem named_atI {l : List NamedD} {m : Int} (h0 : 0 ≤ m) (h : m < l.length) : (namedRows l)[m.toNat]? = some (namedRow (l.getD m.toNat default)) := by
  have := named_at (l := l) (i := m.toNat) (by omega)
  rwa [Int.toNat_natCast] at this

theorem s_spec_ShelfGet : PureSound Try.prog 32 RShelfGet := by
  have hR : Rely Try.prog (ctxOf [(88, .pure RFind), (19, .pure RShelfOk), (89, .pure RCopy)]) :=
    rely_cons b_spec_l17Find.has s_spec_l17Find (rely_cons b_spec_ShelfOk.has s_spec_ShelfOk (rely_cons b_spec_l4Copy.has s_spec_l4Copy (rely_nil mixed)))
  refine pure_of_aw b_spec_ShelfGet ?_
  rintro xs r objs ⟨l, name, rfl, h1, h2, rfl, rfl⟩ -
  have hle := length_namedRows l
  have hf := findI_range l name
  have hed : ∀ i : Nat, i < l.length → (l.getD i default).auto.edges.length ≤ 1048576 := fun i hi => h2 _ (mem_getD hi)
  have hyes : 0 ≤ findI l name → ShelfOk l → shelfGet l name = ((l.getD (findI l name).toNat default).auto, true) := fun a b => if_pos ⟨a, b⟩
  have hno : ¬ (0 ≤ findI l name ∧ ShelfOk l) → shelfGet l name = (zeroAuto, false) := fun a => if_neg a
  refine ⟨by simp, vc2_sound hR _ _ _ _ _ ?_⟩
  conv => whnf
  repeat' (first
    | contradiction
    | (refine And.intro (fun hb => ?_) (fun hb => ?_) <;> first | contradiction | skip
       all_goals (try simp only [decide_eq_true_eq, decide_eq_false_iff_not, Bool.not_eq_true', Bool.not_eq_false', Bool.not_not, ne_eq, length_ints, List.length_map, beq_iff_eq, bne_iff_ne, beq_eq_false_iff_ne, bne_eq_false_iff_eq, Int.not_le, Int.not_lt, ge_iff_le, gt_iff_lt, reduceCtorEq, not_false_eq_true, not_true_eq_false, Bool.false_eq_true, Bool.true_eq_false] at hb)
       all_goals (try (exfalso; first | contradiction | omega))
       all_goals conv => whnf)
    | (refine And.intro (live_all rfl) ?_; conv => whnf)
    | (refine And.intro rfl ?_; conv => whnf)
    | (refine ⟨_, IntWalk.i64_in _ (by omega), ?_⟩; conv => whnf)
    | (refine And.intro (okcs_all rfl) ?_; conv => whnf)
    | (refine And.intro (okvs_all rfl) ?_; conv => whnf)
    | (refine And.intro (frees_all rfl) ?_; conv => whnf)
    | (refine And.intro (bsl_all rfl) ?_; conv => whnf)
    | (refine And.intro (clen_all rfl) ?_; conv => whnf)
    | (refine And.intro (lens_all rfl) ?_; conv => whnf)
    | (refine And.intro (Nat.le_of_ble_eq_true rfl) ?_; conv => whnf)
    | (rw [ints_at (by omega)]; conv => whnf)
    | (rw [ints_at0 (by omega)]; conv => whnf)
    | (rw [ints_at' (by omega) (by omega)]; conv => whnf)
    | (refine And.intro (show (_ + 1) * _ ≤ _ by omega) ?_; conv => whnf)
    | (refine And.intro (show _ + 1 ≤ _ by omega) ?_; conv => whnf)
    | (refine And.intro (by first | omega | (simp only [length_ints]; omega)) ?_; conv => whnf)
    | (refine ⟨_, _, RFind_mk h1, ?_⟩; conv => whnf)
    | (refine ⟨_, _, RShelfOk_mk (l := l), ?_⟩; conv => whnf)
    | (refine ⟨_, _, RCopy_mk (a := (l.getD (findI l name).toNat default).auto) (hed _ (by omega)), ?_⟩; conv => whnf)
    | (rw [named_atI (by omega) (by omega)]; conv => whnf)
    | fail)
  · rw [hno (fun h => absurd h.1 (by omega))]
    refine ⟨.inl rfl, ?_⟩
    conv => whnf
    refine And.intro (Nat.le_of_ble_eq_true rfl) ?_
    conv => whnf
    exact ⟨[none], ⟨rfl, And.intro rfl trivial⟩, And.intro (And.intro (.inl rfl) (And.intro (.inl rfl) (And.intro (.inl rfl) (And.intro ⟨rfl, rfl, rfl⟩ trivial)))) (And.intro (.inl rfl) trivial), rfl, rfl⟩
  · rw [hyes (by omega) (by assumption)]
    refine ⟨.inl rfl, ?_⟩
    conv => whnf
    refine And.intro (Nat.le_of_ble_eq_true rfl) ?_
    conv => whnf
    exact ⟨[some 1], ⟨rfl, And.intro (And.intro rfl rfl) trivial⟩, And.intro (And.intro (.inl rfl) (And.intro (.inl rfl) (And.intro (.inl rfl) (And.intro rfl trivial)))) (And.intro (.inl rfl) trivial), rfl, edges_novs _⟩
  · rw [hno (fun h => absurd h.2 (by assumption))]
    refine ⟨.inl rfl, ?_⟩
    conv => whnf
    refine And.intro (Nat.le_of_ble_eq_true rfl) ?_
    conv => whnf
    exact ⟨[none], ⟨rfl, And.intro rfl trivial⟩, And.intro (And.intro (.inl rfl) (And.intro (.inl rfl) (And.intro (.inl rfl) (And.intro ⟨rfl, rfl, rfl⟩ trivial)))) (And.intro (.inl rfl) trivial), rfl, rfl⟩

theorem shelf_lt {l : List NamedD} (h : ShelfOk l) : ∀ (j i : Nat), i < j → j < l.length → (l.getD i default).name < (l.getD j default).name := by
  intro j
  induction j with
  | zero => intro i h1 _; omega
  | succ j ih =>
    intro i h1 h2
    have h3 := (h.2 (j + 1) h2).2.2 (by omega)
    rw [Nat.add_sub_cancel] at h3
    by_cases hij : i = j
    · subst hij; exact h3
    · have := ih i (by omega) (by omega); omega

theorem atN_facts (l : List NamedD) (name : Int) : atN l name ≤ l.length ∧ (atN l name = l.length ∨ name ≤ (l.getD (atN l name) default).name) ∧ ∀ j, j < atN l name → (l.getD j default).name < name := by
  obtain ⟨h1, h2⟩ := Classical.choose_spec (least_of (p := fun i => i = l.length ∨ name ≤ (l.getD i default).name) ⟨l.length, .inl rfl⟩)
  refine ⟨h2 _ (.inl rfl), h1, fun j hj => ?_⟩
  rcases Int.lt_or_le (l.getD j default).name name with h | h
  · exact h
  · have : atN l name ≤ j := h2 j (.inr h)
    omega

theorem at_find {l : List NamedD} {name : Int} (h : atN l name < l.length ∧ (l.getD (atN l name) default).name = name) : findI l name = atN l name :=
  findI_hit h.1 h.2 (fun j hj => by have := (atN_facts l name).2.2 j hj; omega)
theorem at_miss {l : List NamedD} {name : Int} (hok : ShelfOk l) (h : ¬ (atN l name < l.length ∧ (l.getD (atN l name) default).name = name)) : findI l name = -1 := by
  obtain ⟨h1, h2, h3⟩ := atN_facts l name
  refine findI_miss (fun j hj he => ?_)
  rcases Nat.lt_trichotomy j (atN l name) with g | g | g
  · have := h3 j g; omega
  · subst g; exact h ⟨hj, he⟩
  · have := shelf_lt hok j (atN l name) g hj
    rcases h2 with h2 | h2 <;> omega

theorem s_impl_ShelfGet : PureSound Try.prog 33 RShelfGet := by
  have hR : Rely Try.prog (ctxOf [(90, .pure RAt), (21, .pure RShelfOk), (91, .pure RCopy)]) :=
    rely_cons b_impl_shelfAt.has s_impl_shelfAt (rely_cons b_impl_ShelfOk.has s_impl_ShelfOk (rely_cons b_impl_copyAuto.has s_impl_copyAuto (rely_nil mixed)))
  refine pure_of_aw b_impl_ShelfGet ?_
  rintro xs r objs ⟨l, name, rfl, h1, h2, rfl, rfl⟩ -
  have hle := length_namedRows l
  have hed : ∀ i : Nat, i < l.length → (l.getD i default).auto.edges.length ≤ 1048576 := fun i hi => h2 _ (mem_getD hi)
  have hyes : 0 ≤ findI l name → ShelfOk l → shelfGet l name = ((l.getD (findI l name).toNat default).auto, true) := fun a b => if_pos ⟨a, b⟩
  have hno : ¬ (0 ≤ findI l name ∧ ShelfOk l) → shelfGet l name = (zeroAuto, false) := fun a => if_neg a
  have hat := atN_facts l name
  refine ⟨by simp, vc2_sound hR _ _ _ _ _ ?_⟩
  conv => whnf
  repeat' (first
    | contradiction
    | (refine And.intro (fun hb => ?_) (fun hb => ?_) <;> first | contradiction | skip
       all_goals (try simp only [decide_eq_true_eq, decide_eq_false_iff_not, Bool.not_eq_true', Bool.not_eq_false', Bool.not_not, ne_eq, length_ints, List.length_map, beq_iff_eq, bne_iff_ne, beq_eq_false_iff_ne, bne_eq_false_iff_eq, Int.not_le, Int.not_lt, ge_iff_le, gt_iff_lt, reduceCtorEq, not_false_eq_true, not_true_eq_false, Bool.false_eq_true, Bool.true_eq_false] at hb)
       all_goals (try (exfalso; first | contradiction | omega))
       all_goals conv => whnf)
    | (refine And.intro (live_all rfl) ?_; conv => whnf)
    | (refine And.intro rfl ?_; conv => whnf)
    | (refine ⟨_, IntWalk.i64_in _ (by omega), ?_⟩; conv => whnf)
    | (refine And.intro (okcs_all rfl) ?_; conv => whnf)
    | (refine And.intro (okvs_all rfl) ?_; conv => whnf)
    | (refine And.intro (frees_all rfl) ?_; conv => whnf)
    | (refine And.intro (bsl_all rfl) ?_; conv => whnf)
    | (refine And.intro (clen_all rfl) ?_; conv => whnf)
    | (refine And.intro (lens_all rfl) ?_; conv => whnf)
    | (refine And.intro (Nat.le_of_ble_eq_true rfl) ?_; conv => whnf)
    | (rw [ints_at (by omega)]; conv => whnf)
    | (rw [ints_at0 (by omega)]; conv => whnf)
    | (rw [ints_at' (by omega) (by omega)]; conv => whnf)
    | (refine And.intro (show (_ + 1) * _ ≤ _ by omega) ?_; conv => whnf)
    | (refine And.intro (show _ + 1 ≤ _ by omega) ?_; conv => whnf)
    | (refine And.intro (by first | omega | (simp only [length_ints]; omega)) ?_; conv => whnf)
    | (refine ⟨_, _, RAt_mk h1, ?_⟩; conv => whnf)
    | (refine ⟨_, _, RShelfOk_mk (l := l), ?_⟩; conv => whnf)
    | (refine ⟨_, _, RCopy_mk (a := (l.getD (atN l name) default).auto) (hed _ (by omega)), ?_⟩; conv => whnf)
    | (rw [named_at (l := l) (i := atN l name) (by omega)]; conv => whnf)
    | fail)
  · have hf : findI l name = atN l name := at_find (by assumption)
    rw [hyes (by omega) (by assumption), hf, Int.toNat_natCast]
    refine ⟨.inl rfl, ?_⟩
    conv => whnf
    refine And.intro (Nat.le_of_ble_eq_true rfl) ?_
    conv => whnf
    exact ⟨[some 1], ⟨rfl, And.intro (And.intro rfl rfl) trivial⟩, And.intro (And.intro (.inl rfl) (And.intro (.inl rfl) (And.intro (.inl rfl) (And.intro rfl trivial)))) (And.intro (.inl rfl) trivial), rfl, edges_novs _⟩
  · rw [hno (fun h => absurd h.2 (by assumption))]
    refine ⟨.inl rfl, ?_⟩
    conv => whnf
    refine And.intro (Nat.le_of_ble_eq_true rfl) ?_
    conv => whnf
    exact ⟨[none], ⟨rfl, And.intro rfl trivial⟩, And.intro (And.intro (.inl rfl) (And.intro (.inl rfl) (And.intro (.inl rfl) (And.intro ⟨rfl, rfl, rfl⟩ trivial)))) (And.intro (.inl rfl) trivial), rfl, rfl⟩
  · rw [hno (fun h => by have := at_miss h.2 (by assumption); omega)]
    refine ⟨.inl rfl, ?_⟩
    conv => whnf
    refine And.intro (Nat.le_of_ble_eq_true rfl) ?_
    conv => whnf
    exact ⟨[none], ⟨rfl, And.intro rfl trivial⟩, And.intro (And.intro (.inl rfl) (And.intro (.inl rfl) (And.intro (.inl rfl) (And.intro ⟨rfl, rfl, rfl⟩ trivial)))) (And.intro (.inl rfl) trivial), rfl, rfl⟩

end Go.Proofs.Ytpfbkblgefddlaa.Ct
