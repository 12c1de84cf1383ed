/- A shelf of one's own: rows that own their edges. -/
import Derived.Test.YtpfbkblgefddlaaCtMarkE
import Derived.Test.YtpfbkblgefddlaaAvTurn
namespace Go.Proofs.Ytpfbkblgefddlaa.Ct
set_option linter.unusedSimpArgs false
set_option linter.unusedVariables false
open Go Go.Proofs Go.Proofs.Ytpfbkblgefddlaa.Av

def c_laws_markNamedS : ICode := (.seq (.reg [⟨(some 4), .mv, [(.c (.int .i64 0))], none⟩]) (.seq (.seq (.reg [⟨(some 5), .mv, [(.c (.int .i64 0))], none⟩]) (.block 0 (.loop (.seq (.seq (.reg [⟨(some 6), .mv, [(.t 5)], none⟩, ⟨(some 7), .mv, [(.t 0)], none⟩, ⟨(some 8), .len, [(.t 7)], none⟩, ⟨(some 9), (.bin .lss), [(.t 6), (.t 8)], none⟩]) (.cond (.t 9) .skip (.exit 0))) (.seq (.block 1 (.seq (.reg [⟨(some 12), .mv, [(.t 0)], none⟩, ⟨(some 13), .mv, [(.t 5)], none⟩, ⟨(some 14), .mv, [(.t 1)], none⟩, ⟨(some 15), (.iadr 5), [(.t 12), (.t 13)], none⟩, ⟨(some 16), (.fadr 0), [(.t 15)], none⟩, ⟨none, (.st 1), [(.t 16), (.t 14)], none⟩]) (.seq (.reg [⟨(some 17), .mv, [(.t 1)], none⟩, ⟨(some 18), (.bin .add), [(.t 17), (.c (.int .i64 1))], none⟩, ⟨(some 1), .mv, [(.t 18)], none⟩]) (.seq (.reg [⟨(some 19), .mv, [(.t 0)], none⟩, ⟨(some 20), .mv, [(.t 5)], none⟩, ⟨(some 21), .mv, [(.t 1)], none⟩, ⟨(some 22), (.iadr 5), [(.t 19), (.t 20)], none⟩, ⟨(some 23), (.fadr 1), [(.t 22)], none⟩, ⟨(some 24), (.fadr 0), [(.t 23)], none⟩, ⟨none, (.st 1), [(.t 24), (.t 21)], none⟩]) (.seq (.reg [⟨(some 25), .mv, [(.t 1)], none⟩, ⟨(some 26), (.bin .add), [(.t 25), (.c (.int .i64 1))], none⟩, ⟨(some 1), .mv, [(.t 26)], none⟩]) (.seq (.reg [⟨(some 27), .mv, [(.t 0)], none⟩, ⟨(some 28), .mv, [(.t 5)], none⟩, ⟨(some 29), .mv, [(.t 1)], none⟩, ⟨(some 30), (.iadr 5), [(.t 27), (.t 28)], none⟩, ⟨(some 31), (.fadr 1), [(.t 30)], none⟩, ⟨(some 32), (.fadr 1), [(.t 31)], none⟩, ⟨none, (.st 1), [(.t 32), (.t 29)], none⟩]) (.seq (.reg [⟨(some 33), .mv, [(.t 1)], none⟩, ⟨(some 34), (.bin .add), [(.t 33), (.c (.int .i64 1))], none⟩, ⟨(some 1), .mv, [(.t 34)], none⟩]) (.seq (.reg [⟨(some 35), .mv, [(.t 0)], none⟩, ⟨(some 36), .mv, [(.t 5)], none⟩, ⟨(some 37), .mv, [(.t 1)], none⟩, ⟨(some 38), (.iadr 5), [(.t 35), (.t 36)], none⟩, ⟨(some 39), (.fadr 1), [(.t 38)], none⟩, ⟨(some 40), (.fadr 2), [(.t 39)], none⟩, ⟨none, (.st 1), [(.t 40), (.t 37)], none⟩]) (.seq (.reg [⟨(some 41), .mv, [(.t 1)], none⟩, ⟨(some 42), (.bin .add), [(.t 41), (.c (.int .i64 1))], none⟩, ⟨(some 1), .mv, [(.t 42)], none⟩]) (.reg [⟨(some 43), .mv, [(.t 0)], none⟩, ⟨(some 44), .mv, [(.t 5)], none⟩, ⟨(some 45), (.iadr 5), [(.t 43), (.t 44)], none⟩, ⟨(some 46), (.fadr 1), [(.t 45)], none⟩, ⟨(some 47), (.fadr 3), [(.t 46)], none⟩, ⟨(some 48), .ld1, [(.t 47)], none⟩, ⟨(some 49), .mv, [(.t 1)], none⟩, ⟨(some 50), (.call 93), [(.t 48), (.t 49)], none⟩, ⟨(some 1), .mv, [(.t 50)], none⟩])))))))))) (.reg [⟨(some 10), .mv, [(.t 5)], none⟩, ⟨(some 11), (.bin .add), [(.t 10), (.c (.int .i64 1))], none⟩, ⟨(some 5), .mv, [(.t 11)], none⟩])))))) (.seq (.reg [⟨(some 51), .mv, [(.t 1)], none⟩, ⟨(some 4), .mv, [(.t 51)], none⟩]) .ret)))
theorem b_laws_markNamedS : Body Try.prog 35 52 c_laws_markNamedS [(.t 4)] := by
  have h1 : comp Try.prog 52 (Try.f35.body.getD .skip) = some c_laws_markNamedS := by kernel_rfl
  have h2 : Try.f35.body = some (Try.f35.body.getD .skip) := by kernel_rfl
  have h3 : Try.f35.results.toList.map (cRes Try.prog) = [(some (.t 4))] := by kernel_rfl
  exact ⟨_, _, Try.func35, h2, Try.ntmps35, h1, h3, by decide⟩


/-- the automaton whose edges are the object o -/
def autoRef (o : Nat) (a : AutoD) : List AV := [.int .i64 a.letters, .int .i64 a.states, .int .i64 a.start, .ref o 0 a.edges.length]
def namedRef (o : Nat) (x : NamedD) : List AV := [.int .i64 x.name, .int .i64 x.auto.letters, .int .i64 x.auto.states, .int .i64 x.auto.start, .ref o 0 x.auto.edges.length]
def namedOwn (x : NamedD) : List AV := [.int .i64 x.name, .int .i64 x.auto.letters, .int .i64 x.auto.states, .int .i64 x.auto.start, .own 4 (edgeRows x.auto.edges)]
def namedOwns (l : List NamedD) : List (List AV) := l.map namedOwn
theorem length_namedOwns (l : List NamedD) : (namedOwns l).length = l.length := by simp [namedOwns]

def RToAutoO (xs : List AV) (r : AV) (objs : List AObj) : Prop := ∃ x, xs = [.agg (autoRow x)] ∧ x.edges.length ≤ 1048576 ∧ r = .agg (autoRef 0 x) ∧ objs = [.arr 4 (edgeRows x.edges)]
theorem RToAutoO_mk {x : AutoD} (h : x.edges.length ≤ 1048576) : RToAutoO [.agg (autoRow x)] (.agg (autoRef 0 x)) [.arr 4 (edgeRows x.edges)] := ⟨x, rfl, h, rfl, rfl⟩

theorem o_laws_toAuto : PureSound Try.prog 48 RToAutoO := by
  have hR : Rely Try.prog (ctxOf [(113, .pure RToEdgeS)]) := rely_cons b_laws_toEdgeS.has s_laws_toEdgeS (rely_nil mixed)
  refine pure_of_aw b_laws_toAuto ?_
  rintro xs r objs ⟨x, rfl, hx, rfl, rfl⟩ -
  refine ⟨by simp, vc2_sound hR _ _ _ _ _ ?_⟩
  conv => whnf
  repeat' (first
    | contradiction
    | (refine And.intro (fun hb => ?_) (fun hb => ?_) <;> first | contradiction | skip
       all_goals (try simp only [decide_eq_true_eq, decide_eq_false_iff_not, Bool.not_eq_true', Bool.not_eq_false', Bool.not_not, ne_eq, length_ints, List.length_map, beq_iff_eq, bne_iff_ne, beq_eq_false_iff_ne, bne_eq_false_iff_eq, Int.not_le, Int.not_lt, ge_iff_le, gt_iff_lt, reduceCtorEq, not_false_eq_true, not_true_eq_false, Bool.false_eq_true, Bool.true_eq_false] at hb)
       all_goals (try (exfalso; first | contradiction | omega))
       all_goals conv => whnf)
    | (refine And.intro (live_all rfl) ?_; conv => whnf)
    | (refine And.intro rfl ?_; conv => whnf)
    | (refine ⟨_, IntWalk.i64_in _ (by omega), ?_⟩; conv => whnf)
    | (refine And.intro (okcs_all rfl) ?_; conv => whnf)
    | (refine And.intro (okvs_all rfl) ?_; conv => whnf)
    | (refine And.intro (frees_all rfl) ?_; conv => whnf)
    | (refine And.intro (bsl_all rfl) ?_; conv => whnf)
    | (refine And.intro (clen_all rfl) ?_; conv => whnf)
    | (refine And.intro (lens_all rfl) ?_; conv => whnf)
    | (refine And.intro (Nat.le_of_ble_eq_true rfl) ?_; conv => whnf)
    | (rw [ints_at (by omega)]; conv => whnf)
    | (rw [ints_at0 (by omega)]; conv => whnf)
    | (rw [ints_at' (by omega) (by omega)]; conv => whnf)
    | (refine And.intro (show (_ + 1) * _ ≤ _ by omega) ?_; conv => whnf)
    | (refine And.intro (show _ + 1 ≤ _ by omega) ?_; conv => whnf)
    | (refine And.intro (by first | omega | (simp only [length_ints]; omega)) ?_; conv => whnf)
    | (refine ⟨_, _, RToEdgeS_mk hx, ?_⟩; conv => whnf)
    | fail)
  refine ⟨.inl rfl, ?_⟩
  conv => whnf
  refine And.intro (Nat.le_of_ble_eq_true rfl) ?_
  conv => whnf
  refine ⟨[some 3], ⟨rfl, And.intro (And.intro rfl rfl) trivial⟩, ?_, rfl, by simp [AObj.nov, edgeRows_nov]⟩
  exact And.intro (.inl rfl) (And.intro (.inl rfl) (And.intro (.inl rfl) (And.intro rfl trivial)))

def RToNamedO (xs : List AV) (r : AV) (objs : List AObj) : Prop := ∃ x, xs = [.agg (namedRow x)] ∧ x.auto.edges.length ≤ 1048576 ∧ r = .agg (namedRef 0 x) ∧ objs = [.arr 4 (edgeRows x.auto.edges)]
theorem RToNamedO_mk {x : NamedD} (h : x.auto.edges.length ≤ 1048576) : RToNamedO [.agg (namedRow x)] (.agg (namedRef 0 x)) [.arr 4 (edgeRows x.auto.edges)] := ⟨x, rfl, h, rfl, rfl⟩

theorem o_laws_toNamed : PureSound Try.prog 71 RToNamedO := by
  have hR : Rely Try.prog (ctxOf [(48, .pure RToAutoO)]) := rely_cons b_laws_toAuto.has o_laws_toAuto (rely_nil mixed)
  refine pure_of_aw b_laws_toNamed ?_
  rintro xs r objs ⟨x, rfl, hx, rfl, rfl⟩ -
  refine ⟨by simp, vc2_sound hR _ _ _ _ _ ?_⟩
  conv => whnf
  repeat' (first
    | contradiction
    | (refine And.intro (fun hb => ?_) (fun hb => ?_) <;> first | contradiction | skip
       all_goals (try simp only [decide_eq_true_eq, decide_eq_false_iff_not, Bool.not_eq_true', Bool.not_eq_false', Bool.not_not, ne_eq, length_ints, List.length_map, beq_iff_eq, bne_iff_ne, beq_eq_false_iff_ne, bne_eq_false_iff_eq, Int.not_le, Int.not_lt, ge_iff_le, gt_iff_lt, reduceCtorEq, not_false_eq_true, not_true_eq_false, Bool.false_eq_true, Bool.true_eq_false] at hb)
       all_goals (try (exfalso; first | contradiction | omega))
       all_goals conv => whnf)
    | (refine And.intro (live_all rfl) ?_; conv => whnf)
    | (refine And.intro rfl ?_; conv => whnf)
    | (refine ⟨_, IntWalk.i64_in _ (by omega), ?_⟩; conv => whnf)
    | (refine And.intro (okcs_all rfl) ?_; conv => whnf)
    | (refine And.intro (okvs_all rfl) ?_; conv => whnf)
    | (refine And.intro (frees_all rfl) ?_; conv => whnf)
    | (refine And.intro (bsl_all rfl) ?_; conv => whnf)
    | (refine And.intro (clen_all rfl) ?_; conv => whnf)
    | (refine And.intro (lens_all rfl) ?_; conv => whnf)
    | (refine And.intro (Nat.le_of_ble_eq_true rfl) ?_; conv => whnf)
    | (rw [ints_at (by omega)]; conv => whnf)
    | (rw [ints_at0 (by omega)]; conv => whnf)
    | (rw [ints_at' (by omega) (by omega)]; conv => whnf)
    | (refine And.intro (show (_ + 1) * _ ≤ _ by omega) ?_; conv => whnf)
    | (refine And.intro (show _ + 1 ≤ _ by omega) ?_; conv => whnf)
    | (refine And.intro (by first | omega | (simp only [length_ints]; omega)) ?_; conv => whnf)
    | (refine ⟨_, _, RToAutoO_mk (x := x.auto) hx, ?_⟩; conv => whnf)
    | fail)
  refine ⟨.inl rfl, ?_⟩
  conv => whnf
  refine And.intro (Nat.le_of_ble_eq_true rfl) ?_
  conv => whnf
  refine ⟨[some 3], ⟨rfl, And.intro (And.intro rfl rfl) trivial⟩, ?_, rfl, by simp [AObj.nov, edgeRows_nov]⟩
  exact And.intro (.inl rfl) (And.intro (.inl rfl) (And.intro (.inl rfl) (And.intro (.inl rfl) (And.intro rfl trivial))))

def RToNamedSO (xs : List AV) (r : AV) (objs : List AObj) : Prop := ∃ l, xs = [.val (namedRows l)] ∧ l.length ≤ 1048576 ∧ (∀ x ∈ l, x.auto.edges.length ≤ 1048576) ∧ r = .ref 0 0 l.length ∧ objs = [.nst 5 (namedOwns l)]
theorem RToNamedSO_mk {l : List NamedD} (h : l.length ≤ 1048576) (h2 : ∀ x ∈ l, x.auto.edges.length ≤ 1048576) : RToNamedSO [.val (namedRows l)] (.ref 0 0 l.length) [.nst 5 (namedOwns l)] := ⟨l, rfl, h, h2, rfl, rfl⟩

theorem edgeRows_novss (l : List EdgeD) : AV.novss (edgeRows l) = true := by
  induction l with
  | nil => rfl
  | cons x r ih => simpa [edgeRows, AV.novss, edgeRow, AV.novs, AV.nov] using ih

theorem namedOwns_nov (l : List NamedD) : (namedOwns l).all AV.novs = true := by
  simp [namedOwns, namedOwn, AV.novs, AV.nov, edgeRows_novss]

theorem namedOwn_sealed (x : NamedD) : ∀ c ∈ namedOwn x, c.sealed = true := by
  simp [namedOwn, AV.sealed, AV.free]

theorem fill_sealed {l : List NamedD} {m : Nat} : ∀ row ∈ l.map namedOwn ++ List.replicate m zeroNamedRow, ∀ c ∈ row, c.sealed = true := by
  intro row hr
  rcases List.mem_append.1 hr with h | h
  · obtain ⟨x, _, rfl⟩ := List.mem_map.1 h
    exact namedOwn_sealed x
  · obtain ⟨_, rfl⟩ := List.mem_replicate.1 h
    simp [zeroNamedRow, AV.sealed, AV.free]

theorem fill_set {α : Type} [Inhabited α] {f : α → List AV} {l : List α} {z y : List AV} {i : Nat} (hi : i < l.length) : (((l.take i).map f ++ List.replicate (l.length - i) z).set (0 + ((i : Nat) : Int).toNat) y)[i]? = some y := by
  rw [Nat.zero_add]
  exact List.getElem?_set_self (by simp; omega)

theorem o_laws_toNamedS : PureSound Try.prog 20 RToNamedSO := by
  have hR : Rely Try.prog (ctxOf [(71, .pure RToNamedO)]) := rely_cons b_laws_toNamed.has o_laws_toNamed (rely_nil mixed)
  refine pure_of_aw b_laws_toNamedS ?_
  rintro xs r objs ⟨l, rfl, hl, hed, rfl, rfl⟩ -
  have hle := length_namedRows l
  refine ⟨by simp, vc2_sound hR _ _ _ _ _ ?_⟩
  conv => whnf
  repeat' (first
    | contradiction
    | (refine And.intro (fun hb => ?_) (fun hb => ?_) <;> first | contradiction | skip
       all_goals (try simp only [decide_eq_true_eq, decide_eq_false_iff_not, Bool.not_eq_true', Bool.not_eq_false', Bool.not_not, ne_eq, length_ints, List.length_map, beq_iff_eq, bne_iff_ne, beq_eq_false_iff_ne, bne_eq_false_iff_eq, Int.not_le, Int.not_lt, ge_iff_le, gt_iff_lt, reduceCtorEq, not_false_eq_true, not_true_eq_false, Bool.false_eq_true, Bool.true_eq_false] at hb)
       all_goals (try (exfalso; first | contradiction | omega))
       all_goals conv => whnf)
    | (refine And.intro (live_all rfl) ?_; conv => whnf)
    | (refine And.intro rfl ?_; conv => whnf)
    | (refine ⟨_, IntWalk.i64_in _ (by omega), ?_⟩; conv => whnf)
    | (refine And.intro (okcs_all rfl) ?_; conv => whnf)
    | (refine And.intro (okvs_all rfl) ?_; conv => whnf)
    | (refine And.intro (frees_all rfl) ?_; conv => whnf)
    | (refine And.intro (bsl_all rfl) ?_; conv => whnf)
    | (refine And.intro (clen_all rfl) ?_; conv => whnf)
    | (refine And.intro (lens_all rfl) ?_; conv => whnf)
    | (refine And.intro (Nat.le_of_ble_eq_true rfl) ?_; conv => whnf)
    | (rw [ints_at (by omega)]; conv => whnf)
    | (rw [ints_at0 (by omega)]; conv => whnf)
    | (rw [ints_at' (by omega) (by omega)]; conv => whnf)
    | (refine And.intro (show (_ + 1) * _ ≤ _ by omega) ?_; conv => whnf)
    | (refine And.intro (show _ + 1 ≤ _ by omega) ?_; conv => whnf)
    | (refine And.intro (by first | omega | (simp only [length_ints]; omega)) ?_; conv => whnf)
    | fail)
  refine Lp.turn (.lax 0 5 _ (.inl rfl) (.clos 0 5 _ rfl (fun row hr => ?_) (.refl _ _))) ?_
  · have hr : row ∈ List.replicate _ zeroNamedRow := hr
    obtain ⟨_, rfl⟩ := List.mem_replicate.1 hr
    simp [zeroNamedRow, AV.sealed, AV.free]
  refine Lp.introT (α := Nat) (fun i => i ≤ l.length) (fun i => l.length - i) (fun i => [(0, .val (namedRows l)), (3, .ref 0 0 l.length), (4, .int .i64 i)]) (fun i => [some (.nst 5 ((l.take i).map namedOwn ++ List.replicate (l.length - i) zeroNamedRow))]) ?_ ?_
  · refine ⟨0, by omega, [some 0], rfl, rfl, And.intro (And.intro rfl ?_) trivial, ?_⟩
    · show List.replicate ((namedRows l).length : Int).toNat _ = _
      simp [namedRows, zeroNamedRow]
    · repeat' (first
        | exact trivial
        | refine ⟨?_, ?_⟩
        | fail)
      all_goals first
        | with_reducible rfl
        | (conv => whnf
           try left
           conv => lhs; whnf
           first
             | rfl
             | exact congrArg (AV.int .i64) (by omega)
             | skip)
      exact congrArg (AV.ref 0 0) (by simp [namedRows])
  · intro i hi
    by_cases hlt : i < l.length
    · refine Aw.turn (.lax 0 5 _ (.inr rfl) (.refl _ _)) (vc2_sound hR _ _ _ _ _ ?_)
      conv => whnf
      repeat' (first
        | contradiction
        | (refine And.intro (fun hb => ?_) (fun hb => ?_) <;> first | contradiction | skip
           all_goals (try simp only [decide_eq_true_eq, decide_eq_false_iff_not, Bool.not_eq_true', Bool.not_eq_false', Bool.not_not, ne_eq, length_ints, List.length_map, beq_iff_eq, bne_iff_ne, beq_eq_false_iff_ne, bne_eq_false_iff_eq, Int.not_le, Int.not_lt, ge_iff_le, gt_iff_lt, reduceCtorEq, not_false_eq_true, not_true_eq_false, Bool.false_eq_true, Bool.true_eq_false] at hb)
           all_goals (try (exfalso; first | contradiction | omega))
           all_goals conv => whnf)
        | (refine And.intro (live_all rfl) ?_; conv => whnf)
        | (refine And.intro rfl ?_; conv => whnf)
        | (refine ⟨_, IntWalk.i64_in _ (by omega), ?_⟩; conv => whnf)
        | (refine And.intro (okcs_all rfl) ?_; conv => whnf)
        | (refine And.intro (okvs_all rfl) ?_; conv => whnf)
        | (refine And.intro (frees_all rfl) ?_; conv => whnf)
        | (refine And.intro (bsl_all rfl) ?_; conv => whnf)
        | (refine And.intro (clen_all rfl) ?_; conv => whnf)
        | (refine And.intro (lens_all rfl) ?_; conv => whnf)
        | (refine And.intro (Nat.le_of_ble_eq_true rfl) ?_; conv => whnf)
        | (rw [ints_at (by omega)]; conv => whnf)
        | (rw [ints_at0 (by omega)]; conv => whnf)
        | (rw [ints_at' (by omega) (by omega)]; conv => whnf)
        | (refine And.intro (show (_ + 1) * _ ≤ _ by omega) ?_; conv => whnf)
        | (refine And.intro (show _ + 1 ≤ _ by omega) ?_; conv => whnf)
        | (refine And.intro (by first | omega | (simp only [length_ints]; omega)) ?_; conv => whnf)
        | (rw [show (namedRows l)[((i : Nat) : Int).toNat]? = some (namedRow (l.getD i default)) from map_at (by omega)]; conv => whnf)
        | (refine ⟨_, _, RToNamedO_mk (x := l.getD i default) (hed _ (mem_getD (by omega))), ?_⟩; conv => whnf)
        | (rw [fill_at (f := namedOwn) (by omega)]; conv => whnf)
        | fail)
      refine ⟨_, _, .fold 0 1 i 4 5 4 _ (namedRef 1 (l.getD i default)) (edgeRows (l.getD i default).auto.edges) rfl rfl (by decide) (fill_set (by omega)) _ (length_edgeRows _) rfl
        (.clos 0 5 ((l.take (i + 1)).map namedOwn ++ List.replicate (l.length - (i + 1)) zeroNamedRow) (congrArg (fun r => some (AObj.arx 5 r)) ?_) fill_sealed (.refl _ _)), i + 1, by omega, by omega, [some 0], rfl, rfl, And.intro (And.intro rfl rfl) trivial, ?_⟩
      · rw [Nat.zero_add, Int.toNat_natCast, List.set_set]
        exact fill_rows (by omega)
      · repeat' (first
          | exact trivial
          | refine ⟨?_, ?_⟩
          | fail)
        all_goals first
          | with_reducible rfl
          | (conv => whnf
             try left
             conv => lhs; whnf
             first
               | rfl
               | exact congrArg (AV.int .i64) (by omega)
               | skip)
    · refine vc2_sound hR _ _ _ _ _ ?_
      conv => whnf
      repeat' (first
        | contradiction
        | (refine And.intro (fun hb => ?_) (fun hb => ?_) <;> first | contradiction | skip
           all_goals (try simp only [decide_eq_true_eq, decide_eq_false_iff_not, Bool.not_eq_true', Bool.not_eq_false', Bool.not_not, ne_eq, length_ints, List.length_map, beq_iff_eq, bne_iff_ne, beq_eq_false_iff_ne, bne_eq_false_iff_eq, Int.not_le, Int.not_lt, ge_iff_le, gt_iff_lt, reduceCtorEq, not_false_eq_true, not_true_eq_false, Bool.false_eq_true, Bool.true_eq_false] at hb)
           all_goals (try (exfalso; first | contradiction | omega))
           all_goals conv => whnf)
        | (refine And.intro (live_all rfl) ?_; conv => whnf)
        | (refine And.intro rfl ?_; conv => whnf)
        | (refine ⟨_, IntWalk.i64_in _ (by omega), ?_⟩; conv => whnf)
        | (refine And.intro (okcs_all rfl) ?_; conv => whnf)
        | (refine And.intro (okvs_all rfl) ?_; conv => whnf)
        | (refine And.intro (frees_all rfl) ?_; conv => whnf)
        | (refine And.intro (bsl_all rfl) ?_; conv => whnf)
        | (refine And.intro (clen_all rfl) ?_; conv => whnf)
        | (refine And.intro (lens_all rfl) ?_; conv => whnf)
        | (refine And.intro (Nat.le_of_ble_eq_true rfl) ?_; conv => whnf)
        | (rw [ints_at (by omega)]; conv => whnf)
        | (rw [ints_at0 (by omega)]; conv => whnf)
        | (rw [ints_at' (by omega) (by omega)]; conv => whnf)
        | (refine And.intro (show (_ + 1) * _ ≤ _ by omega) ?_; conv => whnf)
        | (refine And.intro (show _ + 1 ≤ _ by omega) ?_; conv => whnf)
        | (refine And.intro (by first | omega | (simp only [length_ints]; omega)) ?_; conv => whnf)
        | fail)
      have hil : i = l.length := by omega
      refine ⟨.inl rfl, ?_⟩
      conv => whnf
      subst hil
      refine ⟨[some 0], ⟨rfl, And.intro (And.intro rfl ?_) trivial⟩, rfl, rfl, by simp [AObj.nov, namedOwns_nov]⟩
      simp [namedOwns]

/-- a shelf is handed over, and written over; what is written is not told -/
def GMarkNamedS : GFun := fun xs objs Q => ∃ (l : List NamedD) (k : Int), xs = [.ref 0 0 l.length, .int .i64 k] ∧ objs = [.nst 5 (namedOwns l)] ∧ l.length ≤ 1048576 ∧ edgeSum l ≤ 1048576 ∧ 0 ≤ k ∧ k ≤ 1000000 ∧
  ∀ l' : List NamedD, l'.length = l.length → Q (.int .i64 (k + 4 * l.length + 4 * edgeSum l)) [some (.nst 5 (namedOwns l'))]
theorem GMarkNamedS_mk {l : List NamedD} {k : Int} {Q : AV → List (Option AObj) → Prop} (h1 : l.length ≤ 1048576) (h2 : edgeSum l ≤ 1048576) (h3 : 0 ≤ k) (h4 : k ≤ 1000000)
    (hq : ∀ l' : List NamedD, l'.length = l.length → Q (.int .i64 (k + 4 * l.length + 4 * edgeSum l)) [some (.nst 5 (namedOwns l'))]) :
    GMarkNamedS [.ref 0 0 l.length, .int .i64 k] [.nst 5 (namedOwns l)] Q := ⟨l, k, rfl, rfl, h1, h2, h3, h4, hq⟩

theorem over_at {α : Type} [Inhabited α] {f : α → List AV} {p l : List α} {i : Nat} (hp : p.length = i) (hi : i < l.length) : ((p ++ l.drop i).map f)[i]? = some (f (l.getD i default)) := by
  subst hp
  rw [List.getElem?_map, List.getElem?_append_right (Nat.le_refl _), Nat.sub_self, List.getElem?_drop]
  simp [List.getElem?_eq_getElem hi, List.getD_eq_getElem?_getD]
theorem set_at0 {rows : List (List AV)} {i : Nat} {r : List AV} (h : i < rows.length) : (rows.set i r)[0 + ((i : Nat) : Int).toNat]? = some r := by
  rw [Nat.zero_add, Int.toNat_natCast]
  exact List.getElem?_set_self h

/-- a row that has been written over -/
def markedN (k : Int) (x : NamedD) : NamedD := ⟨k, ⟨k + 1, k + 1 + 1, k + 1 + 1 + 1, marksE (k + 1 + 1 + 1 + 1) x.auto.edges.length⟩⟩

set_option maxHeartbeats 4000000 in
theorem s_laws_markNamedS : GenSound Try.prog 35 1 GMarkNamedS := by
  have hR : Rely Try.prog (ctxOf [(93, .gen 1 GMarkEdgeS)]) := rely_cons b_laws_markEdgeS.has s_laws_markEdgeS (rely_nil mixed)
  refine gen_of_aw b_laws_markNamedS ?_
  rintro xs objs Q - ⟨l, k, rfl, rfl, h1, h2, h3, h4, hq⟩ -
  refine ⟨by simp, vc2_sound hR _ _ _ _ _ ?_⟩
  conv => whnf
  repeat' (first
    | contradiction
    | (refine And.intro (fun hb => ?_) (fun hb => ?_) <;> first | contradiction | skip
       all_goals (try simp only [decide_eq_true_eq, decide_eq_false_iff_not, Bool.not_eq_true', Bool.not_eq_false', Bool.not_not, ne_eq, length_ints, List.length_map, beq_iff_eq, bne_iff_ne, beq_eq_false_iff_ne, bne_eq_false_iff_eq, Int.not_le, Int.not_lt, ge_iff_le, gt_iff_lt, reduceCtorEq, not_false_eq_true, not_true_eq_false, Bool.false_eq_true, Bool.true_eq_false] at hb)
       all_goals (try (exfalso; first | contradiction | omega))
       all_goals conv => whnf)
    | (refine And.intro (live_all rfl) ?_; conv => whnf)
    | (refine And.intro rfl ?_; conv => whnf)
    | (refine ⟨_, IntWalk.i64_in _ (by omega), ?_⟩; conv => whnf)
    | (refine And.intro (okcs_all rfl) ?_; conv => whnf)
    | (refine And.intro (okvs_all rfl) ?_; conv => whnf)
    | (refine And.intro (frees_all rfl) ?_; conv => whnf)
    | (refine And.intro (bsl_all rfl) ?_; conv => whnf)
    | (refine And.intro (clen_all rfl) ?_; conv => whnf)
    | (refine And.intro (lens_all rfl) ?_; conv => whnf)
    | (refine And.intro (Nat.le_of_ble_eq_true rfl) ?_; conv => whnf)
    | (rw [ints_at (by omega)]; conv => whnf)
    | (rw [ints_at0 (by omega)]; conv => whnf)
    | (rw [ints_at' (by omega) (by omega)]; conv => whnf)
    | (refine And.intro (show (_ + 1) * _ ≤ _ by omega) ?_; conv => whnf)
    | (refine And.intro (show _ + 1 ≤ _ by omega) ?_; conv => whnf)
    | (refine And.intro (by first | omega | (simp only [length_ints]; omega)) ?_; conv => whnf)
    | fail)
  refine Lp.introT (α := List NamedD) (fun p => p.length ≤ l.length) (fun p => l.length - p.length) (fun p => [(0, .ref 0 0 l.length), (1, .int .i64 (k + 4 * p.length + 4 * edgeSum (l.take p.length))), (5, .int .i64 p.length)]) (fun p => [some (.nst 5 ((p ++ l.drop p.length).map namedOwn))]) ?_ ?_
  · refine ⟨[], by simp, [some 0], rfl, rfl, And.intro (And.intro rfl ?_) trivial, ?_⟩
    · simp [namedOwns]
    · repeat' (first
        | exact trivial
        | refine ⟨?_, ?_⟩
        | fail)
      all_goals first
        | with_reducible rfl
        | (conv => whnf
           try left
           conv => lhs; whnf
           first
             | rfl
             | exact congrArg (AV.int .i64) (by omega)
             | skip)
      exact congrArg (AV.int .i64) (by simp [edgeSum])
  · intro p hi
    have hlen := over_len (f := namedOwn) (p := p) rfl hi
    by_cases hlt : p.length < l.length
    · have hsum := edgeSum_take hlt
      have hle := edgeSum_le l (p.length + 1)
      have hn0 := edgeSum_nonneg (l.take p.length)
      dsimp only
      generalize hkk : k + 4 * (p.length : Int) + 4 * edgeSum (l.take p.length) = kk
      refine Aw.turn (.lax 0 5 _ (.inr rfl) (.unfold 0 p.length 4 5 4 _ (namedOwn (l.getD p.length default)) (edgeRows (l.getD p.length default).auto.edges) rfl (over_at rfl hlt) rfl _ (length_edgeRows _) (.refl _ _))) (vc2_sound hR _ _ _ _ _ ?_)
      conv => whnf
      repeat' (first
        | contradiction
        | (refine And.intro (fun hb => ?_) (fun hb => ?_) <;> first | contradiction | skip
           all_goals (try simp only [decide_eq_true_eq, decide_eq_false_iff_not, Bool.not_eq_true', Bool.not_eq_false', Bool.not_not, ne_eq, length_ints, List.length_map, beq_iff_eq, bne_iff_ne, beq_eq_false_iff_ne, bne_eq_false_iff_eq, Int.not_le, Int.not_lt, ge_iff_le, gt_iff_lt, reduceCtorEq, not_false_eq_true, not_true_eq_false, Bool.false_eq_true, Bool.true_eq_false] at hb)
           all_goals (try (exfalso; first | contradiction | omega))
           all_goals conv => whnf)
        | (refine And.intro (live_all rfl) ?_; conv => whnf)
        | (refine And.intro rfl ?_; conv => whnf)
        | (refine ⟨_, IntWalk.i64_in _ (by omega), ?_⟩; conv => whnf)
        | (refine And.intro (okcs_all rfl) ?_; conv => whnf)
        | (refine And.intro (okvs_all rfl) ?_; conv => whnf)
        | (refine And.intro (frees_all rfl) ?_; conv => whnf)
        | (refine And.intro (bsl_all rfl) ?_; conv => whnf)
        | (refine And.intro (clen_all rfl) ?_; conv => whnf)
        | (refine And.intro (lens_all rfl) ?_; conv => whnf)
        | (refine And.intro (Nat.le_of_ble_eq_true rfl) ?_; conv => whnf)
        | (rw [ints_at (by omega)]; conv => whnf)
        | (rw [ints_at0 (by omega)]; conv => whnf)
        | (rw [ints_at' (by omega) (by omega)]; conv => whnf)
        | (refine And.intro (show (_ + 1) * _ ≤ _ by omega) ?_; conv => whnf)
        | (refine And.intro (show _ + 1 ≤ _ by omega) ?_; conv => whnf)
        | (refine And.intro (by first | omega | (simp only [length_ints]; omega)) ?_; conv => whnf)
        | (rw [set_at0 (by rw [hlen]; omega)]; conv => whnf)
        | (rw [List.getElem?_set_self (by simp only [List.length_set]; rw [hlen]; omega)]; conv => whnf)
        | (refine ⟨GMarkEdgeS_mk (by omega) (by omega) (by omega) ?_⟩; conv => whnf)
        | fail)
      refine ⟨_, _, .fold 0 1 p.length 4 5 4 _ [.int .i64 kk, .int .i64 (kk + 1), .int .i64 (kk + 1 + 1), .int .i64 (kk + 1 + 1 + 1), .ref 1 0 (l.getD p.length default).auto.edges.length] (edgeRows (markedN kk (l.getD p.length default)).auto.edges) rfl (congrArg (fun r => some (AObj.arr 4 (edgeRows (marksE r _)))) ?_) (by decide) ?_ _ ((length_edgeRows _).trans (length_marksE _ _)) rfl
        (.clos 0 5 (((p ++ [markedN kk (l.getD p.length default)]) ++ l.drop (p.length + 1)).map namedOwn) (congrArg (fun r => some (AObj.arx 5 r)) ?_) (fun row hr => ?_) (.refl _ _)),
        p ++ [markedN kk (l.getD p.length default)], by simp; omega, by simp; omega, [some 0], rfl, rfl, And.intro (And.intro rfl ?_) trivial, ?_⟩
      · rfl
      · rw [Nat.zero_add, Int.toNat_natCast]
        simp only [List.set_set]
        exact List.getElem?_set_self (by rw [hlen]; omega)
      · rw [Nat.zero_add, Int.toNat_natCast]
        simp only [List.set_set]
        exact over_set (f := namedOwn) (y := markedN kk (l.getD p.length default)) rfl hlt
      · obtain ⟨x, _, rfl⟩ := List.mem_map.1 hr
        exact namedOwn_sealed x
      · simp
      · repeat' (first
          | exact trivial
          | refine ⟨?_, ?_⟩
          | fail)
        all_goals first
          | with_reducible rfl
          | (conv => whnf
             try left
             conv => lhs; whnf
             first
               | rfl
               | exact congrArg (AV.int .i64) (by omega)
               | skip)
        · exact congrArg (AV.int .i64) (by simp only [List.length_append, List.length_singleton]; rw [hsum]; omega)
        · exact congrArg (AV.int .i64) (by simp)
    · refine vc2_sound hR _ _ _ _ _ ?_
      conv => whnf
      repeat' (first
        | contradiction
        | (refine And.intro (fun hb => ?_) (fun hb => ?_) <;> first | contradiction | skip
           all_goals (try simp only [decide_eq_true_eq, decide_eq_false_iff_not, Bool.not_eq_true', Bool.not_eq_false', Bool.not_not, ne_eq, length_ints, List.length_map, beq_iff_eq, bne_iff_ne, beq_eq_false_iff_ne, bne_eq_false_iff_eq, Int.not_le, Int.not_lt, ge_iff_le, gt_iff_lt, reduceCtorEq, not_false_eq_true, not_true_eq_false, Bool.false_eq_true, Bool.true_eq_false] at hb)
           all_goals (try (exfalso; first | contradiction | omega))
           all_goals conv => whnf)
        | (refine And.intro (live_all rfl) ?_; conv => whnf)
        | (refine And.intro rfl ?_; conv => whnf)
        | (refine ⟨_, IntWalk.i64_in _ (by omega), ?_⟩; conv => whnf)
        | (refine And.intro (okcs_all rfl) ?_; conv => whnf)
        | (refine And.intro (okvs_all rfl) ?_; conv => whnf)
        | (refine And.intro (frees_all rfl) ?_; conv => whnf)
        | (refine And.intro (bsl_all rfl) ?_; conv => whnf)
        | (refine And.intro (clen_all rfl) ?_; conv => whnf)
        | (refine And.intro (lens_all rfl) ?_; conv => whnf)
        | (refine And.intro (Nat.le_of_ble_eq_true rfl) ?_; conv => whnf)
        | (rw [ints_at (by omega)]; conv => whnf)
        | (rw [ints_at0 (by omega)]; conv => whnf)
        | (rw [ints_at' (by omega) (by omega)]; conv => whnf)
        | (refine And.intro (show (_ + 1) * _ ≤ _ by omega) ?_; conv => whnf)
        | (refine And.intro (show _ + 1 ≤ _ by omega) ?_; conv => whnf)
        | (refine And.intro (by first | omega | (simp only [length_ints]; omega)) ?_; conv => whnf)
        | fail)
      have hil : p.length = l.length := by omega
      refine ⟨.inl rfl, ?_⟩
      conv => whnf
      refine ⟨[some 0], .int .i64 (k + 4 * l.length + 4 * edgeSum l), [some (.nst 5 (namedOwns p))], ⟨rfl, And.intro (And.intro rfl ?_) trivial⟩, .inl ?_, rfl, hq p hil⟩
      · simp [namedOwns, hil]
      · exact congrArg (AV.int .i64) (by rw [hil, List.take_length])

end Go.Proofs.Ytpfbkblgefddlaa.Ct
