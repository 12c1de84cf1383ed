/- How far a state is: the reference's search. -/
import Derived.Test.YtpfbkblgefddlaaCtPath1
namespace Go.Proofs.Ytpfbkblgefddlaa.Ct
set_option linter.unusedSimpArgs false
set_option linter.unusedVariables false
open Go Go.Proofs Go.Proofs.Ytpfbkblgefddlaa.Av Go.Proofs.Ytpfbkblgefddlaa.Pl

def c_spec_l7Far : ICode := (.seq (.reg [⟨(some 2), (.box 4), [(.t 0)], none⟩, ⟨(some 4), .mv, [(.c .snil)], none⟩]) (.seq (.reg [⟨(some 11), .bsle, [], none⟩, ⟨(some 5), .mv, [(.t 11)], none⟩]) (.seq (.seq (.reg [⟨(some 6), .mv, [(.c (.int .i64 0))], none⟩]) (.block 0 (.loop (.seq (.seq (.reg [⟨(some 12), .mv, [(.t 6)], none⟩, ⟨(some 13), (.fadr 1), [(.t 2)], none⟩, ⟨(some 14), .ld1, [(.t 13)], none⟩, ⟨(some 15), (.bin .lss), [(.t 12), (.t 14)], none⟩]) (.cond (.t 15) .skip (.exit 0))) (.seq (.block 1 (.reg [⟨(some 18), .mv, [(.t 5)], none⟩, ⟨(some 19), (.bslv 1), [(.c (.int .i64 (-1)))], none⟩, ⟨(some 20), (.app 1 8), [(.t 18), (.t 19)], none⟩, ⟨(some 5), .mv, [(.t 20)], none⟩])) (.reg [⟨(some 16), .mv, [(.t 6)], none⟩, ⟨(some 17), (.bin .add), [(.t 16), (.c (.int .i64 1))], none⟩, ⟨(some 6), .mv, [(.t 17)], none⟩])))))) (.seq (.reg [⟨(some 21), .mv, [(.t 5)], none⟩, ⟨(some 22), .mv, [(.t 1)], none⟩, ⟨(some 23), (.iadr 1), [(.t 21), (.t 22)], none⟩, ⟨none, (.st 1), [(.t 23), (.c (.int .i64 0))], none⟩]) (.seq (.reg [⟨(some 24), .mv, [(.t 1)], none⟩, ⟨(some 25), (.bsl 1), [(.t 24)], none⟩, ⟨(some 7), .mv, [(.t 25)], none⟩]) (.seq (.seq (.reg [⟨(some 8), .mv, [(.c (.int .i64 0))], none⟩]) (.block 2 (.loop (.seq (.seq (.reg [⟨(some 26), .mv, [(.t 8)], none⟩, ⟨(some 27), .mv, [(.t 7)], none⟩, ⟨(some 28), .len, [(.t 27)], none⟩, ⟨(some 29), (.bin .lss), [(.t 26), (.t 28)], none⟩]) (.cond (.t 29) .skip (.exit 2))) (.seq (.block 3 (.seq (.reg [⟨(some 9), .mv, [(.c (.int .i64 0))], none⟩]) (.block 4 (.loop (.seq (.seq (.reg [⟨(some 32), .mv, [(.t 9)], none⟩, ⟨(some 33), (.fadr 3), [(.t 2)], none⟩, ⟨(some 34), .ld1, [(.t 33)], none⟩, ⟨(some 35), .len, [(.t 34)], none⟩, ⟨(some 36), (.bin .lss), [(.t 32), (.t 35)], none⟩]) (.cond (.t 36) .skip (.exit 4))) (.seq (.block 5 (.seq (.reg [⟨(some 39), (.fadr 3), [(.t 2)], none⟩, ⟨(some 40), .ld1, [(.t 39)], none⟩, ⟨(some 41), .mv, [(.t 9)], none⟩, ⟨(some 42), (.iadr 4), [(.t 40), (.t 41)], none⟩, ⟨(some 43), (.ldn 4), [(.t 42)], none⟩, ⟨(some 10), (.alc [(.int .i64 0), (.int .i64 0), (.int .i64 0), (.bool false)]), [], none⟩, ⟨none, (.st 4), [(.t 10), (.t 43)], none⟩]) (.seq (.drw [⟨(some 44), (.fadr 2), [(.t 10)], none⟩, ⟨(some 45), .ld1, [(.t 44)], none⟩, ⟨(some 46), .mv, [(.t 7)], none⟩, ⟨(some 47), .mv, [(.t 8)], none⟩, ⟨(some 48), (.iadr 1), [(.t 46), (.t 47)], none⟩, ⟨(some 49), .ld1, [(.t 48)], none⟩, ⟨(some 50), (.bin .eql), [(.t 45), (.t 49)], none⟩, ⟨(some 51), .mv, [(.t 50)], none⟩, ⟨(some 52), .mv, [(.t 5)], (some (51, true))⟩, ⟨(some 53), (.fadr 0), [(.t 10)], (some (51, true))⟩, ⟨(some 54), .ld1, [(.t 53)], (some (51, true))⟩, ⟨(some 55), (.iadr 1), [(.t 52), (.t 54)], (some (51, true))⟩, ⟨(some 56), .ld1, [(.t 55)], (some (51, true))⟩, ⟨(some 57), (.bin .lss), [(.t 56), (.c (.int .i64 0))], (some (51, true))⟩, ⟨(some 58), .pick, [(.t 51), (.t 57), (.c (.bool false))], none⟩] [[], [0], [], [], [2, 3], [2, 3, 4], [0, 1, 2, 3, 4, 5], [0, 1, 2, 3, 4, 5, 6], [0, 1, 2, 3, 4, 5, 6, 7], [0, 1, 2, 3, 4, 5, 6, 7], [0, 1, 2, 3, 4, 5, 6, 7, 9], [0, 1, 2, 3, 4, 5, 6, 7, 8, 9, 10], [0, 1, 2, 3, 4, 5, 6, 7, 8, 9, 10, 11], [0, 1, 2, 3, 4, 5, 6, 7, 8, 9, 10, 11, 12], [0, 1, 2, 3, 4, 5, 6, 7, 8, 9, 10, 11, 12, 13]] true true) (.cond (.t 58) (.seq (.drw [⟨(some 59), .mv, [(.t 5)], none⟩, ⟨(some 60), (.fadr 0), [(.t 10)], none⟩, ⟨(some 61), .ld1, [(.t 60)], none⟩, ⟨(some 62), .mv, [(.t 5)], none⟩, ⟨(some 63), (.fadr 2), [(.t 10)], none⟩, ⟨(some 64), .ld1, [(.t 63)], none⟩, ⟨(some 65), (.iadr 1), [(.t 62), (.t 64)], none⟩, ⟨(some 66), .ld1, [(.t 65)], none⟩, ⟨(some 67), (.bin .add), [(.t 66), (.c (.int .i64 1))], none⟩, ⟨(some 68), (.iadr 1), [(.t 59), (.t 61)], none⟩, ⟨none, (.st 1), [(.t 68), (.t 67)], none⟩] [[], [], [1], [], [], [4], [3, 4, 5], [3, 4, 5, 6], [3, 4, 5, 6, 7], [0, 1, 2, 3, 4, 5, 6, 7, 8], [0, 1, 2, 3, 4, 5, 6, 7, 8, 9]] true true) (.reg [⟨(some 69), .mv, [(.t 7)], none⟩, ⟨(some 70), (.fadr 0), [(.t 10)], none⟩, ⟨(some 71), .ld1, [(.t 70)], none⟩, ⟨(some 72), (.bslv 1), [(.t 71)], none⟩, ⟨(some 73), (.app 1 8), [(.t 69), (.t 72)], none⟩, ⟨(some 7), .mv, [(.t 73)], none⟩])) .skip)))) (.reg [⟨(some 37), .mv, [(.t 9)], none⟩, ⟨(some 38), (.bin .add), [(.t 37), (.c (.int .i64 1))], none⟩, ⟨(some 9), .mv, [(.t 38)], none⟩]))))))) (.reg [⟨(some 30), .mv, [(.t 8)], none⟩, ⟨(some 31), (.bin .add), [(.t 30), (.c (.int .i64 1))], none⟩, ⟨(some 8), .mv, [(.t 31)], none⟩])))))) (.seq (.reg [⟨(some 74), .mv, [(.t 5)], none⟩, ⟨(some 4), .mv, [(.t 74)], none⟩]) .ret)))))))
theorem b_spec_l7Far : Body Try.prog 155 75 c_spec_l7Far [(.t 4)] := body_mk Try.func155 (by kernel_rfl) (by decide)


/-- edges turned -/
abbrev AE (a : AutoD) (p r : Nat) : Prop := EA a r p
noncomputable def farT (a : AutoD) (to : Nat) : List Int := farL (AE a) (· ∈ [to]) a.states.toNat
theorem farT_len {a : AutoD} {to : Nat} : (farT a to).length = a.states.toNat := length_farL
theorem adj_backA {a : AutoD} (h : AutoOk a) : Adj (backG (autoG a)) = AE a := by
  funext p r
  exact propext ((adj_back (gok_auto h)).trans (adj_auto h))

def RFarT (xs : List AV) (r : AV) (objs : List AObj) : Prop := ∃ (a : AutoD) (to : Nat), xs = [.agg (autoRow a), .int .i64 ((to : Nat) : Int)] ∧ AutoOk a ∧ to < a.states.toNat ∧ r = .ref 0 0 a.states.toNat ∧ objs = [.arr 1 (ints (farT a to))]
theorem RFarT_eq {xs : List AV} {a : AutoD} {to : Nat} (hx : xs = [.agg (autoRow a), .int .i64 ((to : Nat) : Int)]) (h : AutoOk a) (h1 : to < a.states.toNat) : RFarT xs (.ref 0 0 a.states.toNat) [.arr 1 (ints (farT a to))] := ⟨a, to, hx, h, h1, rfl, rfl⟩

theorem ints_app {l : List Int} {x : Int} {k : Nat} (hk : k = l.length) : List.take k (ints l) ++ [[.int .i64 x]] = ints (l ++ [x]) := by
  subst hk
  rw [List.take_of_length_le (by simp [ints])]
  simp [ints]

set_option maxHeartbeats 8000000 in
theorem s_spec_l7Far : PureSound Try.prog 155 RFarT := by
  have hR : Rely Try.prog (ctxOf []) := rely_nil mixed
  refine pure_of_aw b_spec_l7Far ?_
  rintro xs r objs ⟨a, to, rfl, ha, hto, rfl, rfl⟩ -
  have hs := ha.1.2.1
  have hle := length_edgeRows a.edges
  have hl := ha.2.1
  have es : a.states = ((a.states.toNat : Nat) : Int) := by omega
  generalize hn : a.states.toNat = n at *
  have hA : ∀ p r, p < n → AE a p r → r < n := fun p r _ h => by have := (ea_lt ha h).1; omega
  have hAS : ∀ p, p ∈ [to] → p < n := fun p hp => by simp at hp; omega
  refine ⟨by simp, vc2_sound hR _ _ _ _ _ ?_⟩
  conv => whnf
  repeat' ((first
    | contradiction
    | (refine And.intro (fun hb => ?_) (fun hb => ?_) <;> first | contradiction | ((try simp only [SB, reduceCtorEq] at hb); try (exfalso; first | contradiction | omega)))
    | refine And.intro rfl ?_
    | refine ⟨_, IntWalk.i64_in _ (by omega), ?_⟩
    | rw [ints_at (by omega)]
    | rw [ints_at0 (by omega)]
    | rw [ints_at' (by omega) (by omega)]
    | refine And.intro (lens_all rfl) ?_
    | refine And.intro (show _ ≤ _ ∧ (_ + 1) * _ ≤ _ ∧ _ + 1 ≤ _ by first | omega | (simp; omega)) ?_
    | refine And.intro (show 1 * _ ≤ _ ∧ 1 ≤ _ by omega) ?_
    | refine And.intro (by first | omega | (simp; omega) | (show _ ∧ _; simp; done)) ?_
    | fail) <;> conv => whnf)
  refine Lp.intro (α := Nat) (fun i => i ≤ n) (fun i => n - i) (fun i => [(1, .int .i64 to), (2, .ptr 0 0 0), (5, .ref 1 0 i), (6, .int .i64 i)]) (fun i => [some (.box (autoRow a)), some (.arr 1 (ints (List.replicate i (-1))))]) ?_ ?_
  · refine ⟨0, Nat.zero_le _, [some 0, none], rfl, rfl, And.intro (And.intro (.inl rfl) (And.intro (.inl rfl) (And.intro (.inl rfl) (And.intro (.inl rfl) trivial)))) (And.intro rfl trivial), ?_⟩
    exact ⟨.inl rfl, rfl, ⟨rfl, rfl, rfl⟩, .inl rfl, trivial⟩
  intro i hi
  have hri := length_ints (List.replicate i (-1 : Int))
  rw [List.length_replicate] at hri
  refine vc2_sound hR _ _ _ _ _ ?_
  by_cases hlt : i < n
  · conv => whnf
    repeat' ((first
      | contradiction
      | (refine And.intro (fun hb => ?_) (fun hb => ?_) <;> first | contradiction | ((try simp only [SB, reduceCtorEq] at hb); try (exfalso; first | contradiction | omega)))
      | refine And.intro rfl ?_
      | refine ⟨_, IntWalk.i64_in _ (by omega), ?_⟩
      | rw [ints_at (by omega)]
      | rw [ints_at0 (by omega)]
      | rw [ints_at' (by omega) (by omega)]
      | refine And.intro (lens_all rfl) ?_
      | refine And.intro (show _ ≤ _ ∧ (_ + 1) * _ ≤ _ ∧ _ + 1 ≤ _ by first | omega | (simp; omega)) ?_
      | refine And.intro (show 1 * _ ≤ _ ∧ 1 ≤ _ by omega) ?_
      | refine And.intro (by first | omega | (simp; omega) | (show _ ∧ _; simp; done)) ?_
      | fail) <;> conv => whnf)
    refine ⟨i + 1, hlt, by omega, [some 0, some 2], rfl, rfl, And.intro (And.intro (.inl rfl) (And.intro (.inl rfl) (And.intro (.inl rfl) (And.intro (.inl rfl) trivial)))) (And.intro (And.intro rfl ?_) trivial), ?_⟩
    · rw [ints_app (by simp), ← List.replicate_succ']
    · exact ⟨.inl rfl, rfl, rfl, .inl rfl, trivial⟩
  obtain rfl : i = n := by omega
  clear hi hlt
  have hz : (ints (List.replicate i (-1)))[0 + ((to : Nat) : Int).toNat]? = some [.int .i64 (-1)] := by
    rw [ints_at0 (by simpa using hto), List.getD_eq_getElem?_getD, List.getElem?_replicate, if_pos hto]; rfl
  conv => whnf
  repeat' ((first
    | contradiction
    | (refine And.intro (fun hb => ?_) (fun hb => ?_) <;> first | contradiction | ((try simp only [SB, reduceCtorEq] at hb); try (exfalso; first | contradiction | omega)))
    | refine And.intro rfl ?_
    | refine ⟨_, IntWalk.i64_in _ (by omega), ?_⟩
    | rw [ints_at (by omega)]
    | rw [ints_at0 (by omega)]
    | rw [ints_at' (by omega) (by omega)]
    | refine And.intro (lens_all rfl) ?_
    | refine And.intro (show _ ≤ _ ∧ (_ + 1) * _ ≤ _ ∧ _ + 1 ≤ _ by first | omega | (simp; omega)) ?_
    | refine And.intro (show 1 * _ ≤ _ ∧ 1 ≤ _ by omega) ?_
    | refine And.intro (by first | omega | (simp; omega) | (show _ ∧ _; simp; done)) ?_
    | rw [hz]
    | fail) <;> conv => whnf)
  have hI := (ini_start i [to]).put (p := to) (by simp) rfl hto (by rw [List.getD_eq_getElem?_getD, List.getElem?_replicate, if_pos hto]; decide)
  have hB := hI.bfs (A := AE a) (by simp)
  -- the search
  refine Lp.intro (α := List Int × List Nat × Nat) (fun b => Bfs (AE a) (· ∈ [to]) i b.1 b.2.1 b.2.2 (fun _ => False) ∧ b.2.2 ≤ b.2.1.length) (fun b => i - b.2.2)
    (fun b => [(2, .ptr 0 0 0), (5, .ref 1 0 i), (7, .ref 2 0 b.2.1.length), (8, .int .i64 b.2.2)]) (fun b => [some (.box (autoRow a)), some (.arr 1 (ints b.1)), some (.arr 1 (ints (natsI b.2.1)))]) ?_ ?_
  · refine ⟨((List.replicate i (-1)).set to 0, [] ++ [to], 0), ⟨hB, Nat.zero_le _⟩, [some 0, some 1, some 2], rfl, rfl, And.intro (And.intro (.inl rfl) (And.intro (.inl rfl) (And.intro (.inl rfl) (And.intro (.inl rfl) trivial)))) (And.intro (And.intro rfl ints_set) (And.intro (And.intro rfl rfl) trivial)), ?_⟩
    exact ⟨rfl, rfl, rfl, .inl rfl, trivial⟩
  clear hI hB hz hri
  rintro ⟨d, q, k⟩ ⟨hB, hk⟩
  dsimp only at hB hk ⊢
  have hdl := hB.len
  have hql := hB.num
  have hdi := length_ints d
  have hqi := (length_ints (natsI q)).trans (length_natsI q)
  refine vc2_sound hR _ _ _ _ _ ?_
  by_cases hlt : k < q.length
  · have hp := hB.lt k hlt
    conv => whnf
    repeat' ((first
      | contradiction
      | (refine And.intro (fun hb => ?_) (fun hb => ?_) <;> first | contradiction | ((try simp only [SB, reduceCtorEq] at hb); try (exfalso; first | contradiction | omega)))
      | refine And.intro rfl ?_
      | refine ⟨_, IntWalk.i64_in _ (by omega), ?_⟩
      | rw [ints_at (by omega)]
      | rw [ints_at0 (by omega)]
      | rw [ints_at' (by omega) (by omega)]
      | refine And.intro (lens_all rfl) ?_
      | refine And.intro (show _ ≤ _ ∧ (_ + 1) * _ ≤ _ ∧ _ + 1 ≤ _ by first | omega | (simp; omega)) ?_
      | refine And.intro (show 1 * _ ≤ _ ∧ 1 ≤ _ by omega) ?_
      | refine And.intro (by first | omega | (simp; omega) | (show _ ∧ _; simp; done)) ?_
      | fail) <;> conv => whnf)
    -- the edges
    refine Lp.intro (α := List Int × List Nat × Nat) (fun b => Bfs (AE a) (· ∈ [to]) i b.1 b.2.1 k (fun r => ∃ j, j < b.2.2 ∧ (a.edges.getD j default).dst.toNat = q.getD k 0 ∧ (a.edges.getD j default).src.toNat = r) ∧ k < b.2.1.length ∧ b.2.1.getD k 0 = q.getD k 0 ∧ b.2.2 ≤ a.edges.length) (fun b => a.edges.length - b.2.2)
      (fun b => [(2, .ptr 0 0 0), (5, .ref 1 0 i), (7, .ref 2 0 b.2.1.length), (8, .int .i64 k), (9, .int .i64 b.2.2)]) (fun b => [some (.box (autoRow a)), some (.arr 1 (ints b.1)), some (.arr 1 (ints (natsI b.2.1)))]) ?_ ?_
    · refine ⟨(d, q, 0), ⟨hB.see (fun r _ _ _ hr => by obtain ⟨j, hj, _⟩ := hr; dsimp only at hj; omega), hlt, rfl, Nat.zero_le _⟩, [some 0, some 1, some 2], rfl, rfl, And.intro (And.intro (.inl rfl) (And.intro (.inl rfl) (And.intro (.inl rfl) (And.intro (.inl rfl) trivial)))) (And.intro (And.intro rfl rfl) (And.intro (And.intro rfl rfl) trivial)), ?_⟩
      exact ⟨rfl, rfl, rfl, .inl rfl, .inl rfl, trivial⟩
    generalize hpp : q.getD k 0 = p at *
    clear hB hdl hql hdi hqi
    rintro ⟨d', q', j⟩ ⟨hC, hk', hqp, hj⟩
    dsimp only at hC hk' hqp hj ⊢
    have hdl := hC.len
    have hql := hC.num
    have hdi := length_ints d'
    have hqi := (length_ints (natsI q')).trans (length_natsI q')
    have hbnd := hC.bnd k hk'
    have hd0 := (hC.lt k hk').2
    rw [hqp] at hbnd hd0
    refine vc2_sound hR _ _ _ _ _ ?_
    by_cases hjl : j < a.edges.length
    · have he := edge_in ha hjl
      unfold EdgeIn at he
      have es1 : (a.edges.getD j default).src = (((a.edges.getD j default).src.toNat : Nat) : Int) := by omega
      have es2 : (a.edges.getD j default).dst = (((a.edges.getD j default).dst.toNat : Nat) : Int) := by omega
      have hq0 : (ints (natsI q'))[0 + ((k : Nat) : Int).toNat]? = some [.int .i64 ((p : Nat) : Int)] := by rw [natsI_at0 hk', hqp]
      have hsr : (ints d')[0 + (a.edges.getD j default).src.toNat]? = some [.int .i64 (d'.getD (a.edges.getD j default).src.toNat 0)] := by
        have := ints_at0 (xs := d') (i := (a.edges.getD j default).src.toNat) (by omega)
        rwa [Int.toNat_natCast] at this
      have hds : (ints d')[0 + (a.edges.getD j default).dst.toNat]? = some [.int .i64 (d'.getD (a.edges.getD j default).dst.toNat 0)] := by
        have := ints_at0 (xs := d') (i := (a.edges.getD j default).dst.toNat) (by omega)
        rwa [Int.toNat_natCast] at this
      have hup : (a.edges.getD j default).dst = ((p : Nat) : Int) → d'.getD (a.edges.getD j default).dst.toNat 0 = d'.getD p 0 := fun h => by
        rw [h, Int.toNat_natCast]
      conv => whnf
      repeat' ((first
        | contradiction
        | (refine And.intro (fun hb => ?_) (fun hb => ?_) <;> first | contradiction | ((try simp only [SB, reduceCtorEq] at hb); try (exfalso; first | contradiction | omega)))
        | refine And.intro rfl ?_
        | refine ⟨_, IntWalk.i64_in _ (by omega), ?_⟩
        | rw [ints_at (by omega)]
        | rw [ints_at0 (by omega)]
        | rw [ints_at' (by omega) (by omega)]
        | refine And.intro (lens_all rfl) ?_
        | refine And.intro (show _ ≤ _ ∧ (_ + 1) * _ ≤ _ ∧ _ + 1 ≤ _ by first | omega | (simp; omega)) ?_
        | refine And.intro (show 1 * _ ≤ _ ∧ 1 ≤ _ by omega) ?_
        | refine And.intro (by first | omega | (simp; omega) | (show _ ∧ _; simp; done)) ?_
        | rw [edge_at (by omega)]
        | rw [hq0]
        | rw [hsr]
        | rw [hds]
        | fail) <;> conv => whnf)
      · rename_i g1 g2
        have e1 := hup g1
        have hdp : (a.edges.getD j default).dst.toNat = p := by omega
        have hpush := hC.push hA hAS hk' (r := (a.edges.getD j default).src.toNat) (by omega) (by rw [hqp]; exact ⟨_, getD_mem' hjl, rfl, hdp⟩) g2
        rw [hqp] at hpush
        refine ⟨(d'.set (a.edges.getD j default).src.toNat (d'.getD p 0 + 1), q' ++ [(a.edges.getD j default).src.toNat], j + 1), ⟨hpush.see (fun r hr _ _ hcr => ?_), by simp; omega, by rw [getD_app, if_pos hk']; exact hqp, hjl⟩, by dsimp only; omega, [some 0, some 1, some 4], rfl, rfl, And.intro (And.intro (.inl rfl) (And.intro (.inl rfl) (And.intro (.inl rfl) (And.intro (.inl rfl) trivial)))) (And.intro (And.intro rfl ?_) (And.intro (And.intro rfl ?_) trivial)), ?_⟩
        · obtain ⟨j', hj', h1, rfl⟩ := hcr
          by_cases hjj : j' = j
          · subst hjj
            refine .inr ?_
            rw [Pl.getD_set, if_pos ⟨rfl, by omega⟩]
            omega
          · exact .inl ⟨j', by dsimp only at hj'; omega, h1, rfl⟩
        · rw [← e1]
          simp [ints, List.map_set]
        · have := natsI_app (l := q') (p := (a.edges.getD j default).src.toNat) rfl
          rwa [← es1] at this
        · exact ⟨rfl, rfl, congrArg (AV.ref 4 0) (by simp), .inl rfl, .inl rfl, trivial⟩
      all_goals
        refine ⟨(d', q', j + 1), ⟨hC.see (fun r hr _ _ hcr => ?_), hk', hqp, hjl⟩, by dsimp only; omega, [some 0, some 1, some 2], rfl, rfl, And.intro (And.intro (.inl rfl) (And.intro (.inl rfl) (And.intro (.inl rfl) (And.intro (.inl rfl) trivial)))) (And.intro (And.intro rfl rfl) (And.intro (And.intro rfl rfl) trivial)), ?_⟩
        · obtain ⟨j', hj', h1, rfl⟩ := hcr
          by_cases hjj : j' = j
          · subst hjj
            first
            | exact .inr (by omega)
            | (exfalso; rename_i g _; exact g (by omega))
            | (exfalso; omega)
          · exact .inl ⟨j', by dsimp only at hj'; omega, h1, rfl⟩
        · exact ⟨rfl, rfl, rfl, .inl rfl, .inl rfl, trivial⟩
    · conv => whnf
      repeat' ((first
        | contradiction
        | (refine And.intro (fun hb => ?_) (fun hb => ?_) <;> first | contradiction | ((try simp only [SB, reduceCtorEq] at hb); try (exfalso; first | contradiction | omega)))
        | refine And.intro rfl ?_
        | refine ⟨_, IntWalk.i64_in _ (by omega), ?_⟩
        | rw [ints_at (by omega)]
        | rw [ints_at0 (by omega)]
        | rw [ints_at' (by omega) (by omega)]
        | refine And.intro (lens_all rfl) ?_
        | refine And.intro (show _ ≤ _ ∧ (_ + 1) * _ ≤ _ ∧ _ + 1 ≤ _ by first | omega | (simp; omega)) ?_
        | refine And.intro (show 1 * _ ≤ _ ∧ 1 ≤ _ by omega) ?_
        | refine And.intro (by first | omega | (simp; omega) | (show _ ∧ _; simp; done)) ?_
        | fail) <;> conv => whnf)
      refine ⟨(d', q', k + 1), ⟨hC.next (fun _ r hr ha => ?_), hk'⟩, by dsimp only; omega, [some 0, some 1, some 2], rfl, rfl, And.intro (And.intro (.inl rfl) (And.intro (.inl rfl) (And.intro (.inl rfl) (And.intro (.inl rfl) trivial)))) (And.intro (And.intro rfl rfl) (And.intro (And.intro rfl rfl) trivial)), ?_⟩
      · rw [hqp] at ha
        obtain ⟨e, he, h1, h2⟩ := ha
        obtain ⟨m, hm, rfl⟩ := mem_at he
        exact ⟨m, by omega, h2, h1⟩
      · exact ⟨rfl, rfl, rfl, .inl rfl, trivial⟩
  · have hfin := hB.fin hA hAS (by omega)
    conv => whnf
    repeat' ((first
      | contradiction
      | (refine And.intro (fun hb => ?_) (fun hb => ?_) <;> first | contradiction | ((try simp only [SB, reduceCtorEq] at hb); try (exfalso; first | contradiction | omega)))
      | refine And.intro rfl ?_
      | refine ⟨_, IntWalk.i64_in _ (by omega), ?_⟩
      | rw [ints_at (by omega)]
      | rw [ints_at0 (by omega)]
      | rw [ints_at' (by omega) (by omega)]
      | refine And.intro (lens_all rfl) ?_
      | refine And.intro (show _ ≤ _ ∧ (_ + 1) * _ ≤ _ ∧ _ + 1 ≤ _ by first | omega | (simp; omega)) ?_
      | refine And.intro (show 1 * _ ≤ _ ∧ 1 ≤ _ by omega) ?_
      | refine And.intro (by first | omega | (simp; omega) | (show _ ∧ _; simp; done)) ?_
      | fail) <;> conv => whnf)
    refine ⟨.inl rfl, ?_⟩
    conv => whnf
    subst hfin
    exact ⟨[some 1], ⟨rfl, And.intro (And.intro rfl (by unfold farT; rw [hn])) trivial⟩, rfl, rfl, by simp [AObj.nov, ints_nov]⟩

end Go.Proofs.Ytpfbkblgefddlaa.Ct
