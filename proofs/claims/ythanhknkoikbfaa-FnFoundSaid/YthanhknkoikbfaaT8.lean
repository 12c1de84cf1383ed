/- Part 8 of the proof of FnFoundSaid: CtLive to CtLawFound. Conditions: none. -/
import Derived.Test.YthanhknkoikbfaaT7
import Derived.Test.YthanhknkoikbfaaT4
namespace Go.Proofs.Ythanhknkoikbfaa.Ct
set_option linter.unusedSimpArgs false
set_option linter.unusedVariables false
open Go Go.Proofs Go.Proofs.Ythanhknkoikbfaa.Av Go.Proofs.Ythanhknkoikbfaa.Pl
def c_impl_Auto_live : ICode := (.seq (.reg [Ol 2 .mv [ci 0]]) (.seq (.reg [O1 10 .mv 0, O1 11 (.call 121) 10, O1 12 (.call 104) 11, O1 3 .mv 12]) (.seq (.reg [Ol 4 .mv [.c .snil]]) (.seq (.seq (.reg [O1 13 .mv 0, O1 14 .nck 13, O1 15 (.fadr 3) 14, O1 16 .ld1 15, O1 17 .len 16, Ol 18 .mv [ci 0]]) (.block 0 (.loop (.seq (.reg [O2 19 (.bin .lss) 18 17]) (.seq (.cond (.t 19) .skip (.exit 0)) (.seq (.block 1 (.seq (.reg [O2 20 (.iadr 4) 16 18, O1 21 (.ldn 4) 20, O0 6 (.alc [(.int .i64 0), (.int .i64 0), (.int .i64 0), (.bool false)]), S2 (.st 4) 6 21]) (.seq (.drw [O1 22 (.fadr 3) 6, O1 23 .ld1 22, O1 24 .mv 23, Og 25 .mv [.t 3] 24 true, Og 26 (.fadr 0) [.t 6] 24 true, Og 27 .ld1 [.t 26] 24 true, Og 28 (.iadr 1) [.t 25, .t 27] 24 true, Og 29 .ld1 [.t 28] 24 true, Og 30 .mv [.t 3] 24 true, Og 31 (.fadr 2) [.t 6] 24 true, Og 32 .ld1 [.t 31] 24 true, Og 33 (.iadr 1) [.t 30, .t 32] 24 true, Og 34 .ld1 [.t 33] 24 true, Og 35 (.bin .eql) [.t 29, .t 34] 24 true, Ol 36 .pick [.t 24, .t 35, cb false]] (unB [0, 1, 3, 7, 7, 23, 63, 127, 7, 7, 519, 1799, 3847, 8191, 16383] 0) true true) (.cond (.t 36) (.reg [O1 37 .mv 4, O1 38 (.fadr 0) 6, O1 39 .ld1 38, O1 40 (.bslv 1) 39, O2 41 (.app 1 8) 37 40, O1 4 .mv 41]) .skip)))) (.reg [Ol 42 (.bin .add) [.t 18, ci 1], O1 18 .mv 42]))))))) (.seq (.reg [Ol 7 .mv [ci 0]]) (.seq (.seq (.reg [O1 43 .mv 0, O1 44 (.call 121) 43, O1 45 (.call 177) 44, O1 46 .mv 4, O2 47 (.call 103) 45 46, O1 48 .len 47, Ol 49 .mv [ci 0]]) (.block 2 (.loop (.seq (.reg [O2 50 (.bin .lss) 49 48]) (.seq (.cond (.t 50) .skip (.exit 2)) (.seq (.block 3 (.seq (.reg [O1 51 .mv 49, O2 52 (.iadr 1) 47 49, O1 53 .ld1 52, O1 8 .mv 51, O1 9 .mv 53]) (.seq (.reg [O1 54 .mv 9, Ol 55 (.bin .geq) [.t 54, ci 0]]) (.cond (.t 55) (.reg [O1 56 .mv 7, O1 57 .mv 8, O1 58 (.call 141) 57, O2 59 (.bin .or) 56 58, O1 7 .mv 59]) .skip)))) (.reg [Ol 60 (.bin .add) [.t 49, ci 1], O1 49 .mv 60]))))))) (.seq (.reg [O1 61 .mv 7, O1 2 .mv 61]) .ret)))))))
theorem b_impl_Auto_live : Body Try.prog 113 62 c_impl_Auto_live [(.t 2)] := body_mk Try.func113 (by kernel_rfl) (by decide)
def c_impl_AutoLive : ICode := (.seq (.reg [O1 1 (.box 4) 0, Ol 2 .mv [ci 0]]) (.seq (.seq (.reg [O1 3 (.ldn 4) 1, O1 4 (.call 70) 3, O1 5 .not 4]) (.cond (.t 5) (.seq (.reg [Ol 2 .mv [ci 0]]) .ret) .skip)) (.seq (.reg [O1 6 (.call 113) 1, O1 2 .mv 6]) .ret)))
theorem b_impl_AutoLive : Body Try.prog 42 7 c_impl_AutoLive [(.t 2)] := body_mk Try.func42 (by kernel_rfl) (by decide)
def c_impl_AutoEmpty : ICode := (.seq (.reg [O1 1 (.box 4) 0, Ol 2 .mv [cb false]]) (.seq (.drw [O1 3 (.ldn 4) 1, O1 4 (.call 70) 3, O1 5 .mv 4, Og 6 (.call 113) [.t 1] 5 true, Og 7 (.fadr 2) [.t 1] 5 true, Og 8 .ld1 [.t 7] 5 true, Og 9 (.bin .and) [.t 6, .t 8] 5 true, Og 10 (.bin .eql) [.t 9, ci 0] 5 true, Ol 11 .pick [.t 5, .t 10, cb false], O1 2 .mv 11] (unB [0, 1, 3, 7, 7, 23, 63, 127, 255, 511] 0) true true) .ret))
theorem b_impl_AutoEmpty : Body Try.prog 59 12 c_impl_AutoEmpty [(.t 2)] := body_mk Try.func59 (by kernel_rfl) (by decide)
noncomputable def inRing (a : AutoD) (e : EdgeD) : Bool := e.mark && (pathW a (2 ^ e.dst.toNat) e.src.toNat).2
noncomputable def endsL (a : AutoD) (i : Nat) : List Nat := ((a.edges.take i).filter (inRing a)).map fun e => e.src.toNat
theorem edges_take {l : List EdgeD} {i : Nat} (hi : i < l.length) : l.take (i + 1) = l.take i ++ [l.getD i default] := by
  rw [List.take_add_one, List.getElem?_eq_getElem hi, Option.toList_some, List.getD_eq_getElem?_getD, List.getElem?_eq_getElem hi, Option.getD_some]
theorem endsL_yes {a : AutoD} {i : Nat} (hi : i < a.edges.length) (h : inRing a (a.edges.getD i default) = true) : endsL a (i + 1) = endsL a i ++ [(a.edges.getD i default).src.toNat] := by
  unfold endsL
  rw [edges_take hi, List.filter_append, List.map_append]
  generalize a.edges.getD i default = e at h
  simp [h]
theorem endsL_no {a : AutoD} {i : Nat} (hi : i < a.edges.length) (h : inRing a (a.edges.getD i default) = false) : endsL a (i + 1) = endsL a i := by
  unfold endsL
  rw [edges_take hi, List.filter_append, List.map_append]
  generalize a.edges.getD i default = e at h
  simp [h]
theorem endsL_len {a : AutoD} {i : Nat} (hi : i ≤ a.edges.length) : (endsL a i).length ≤ a.edges.length := by
  unfold endsL
  rw [List.length_map]
  refine Nat.le_trans (List.length_filter_le _ _) ?_
  rw [List.length_take]; omega
theorem mem_ends {a : AutoD} {p : Nat} : p ∈ endsL a a.edges.length ↔ ∃ e ∈ a.edges, inRing a e = true ∧ e.src.toNat = p := by
  unfold endsL
  rw [List.take_length]
  simp only [List.mem_map, List.mem_filter]
  constructor
  · rintro ⟨e, ⟨h1, h2⟩, h3⟩; exact ⟨e, h1, h2, h3⟩
  · rintro ⟨e, h1, h2, h3⟩; exact ⟨e, ⟨h1, h2⟩, h3⟩
theorem ends_lt {a : AutoD} (ha : AutoOk a) {p : Nat} (h : p ∈ endsL a a.edges.length) : p < a.states.toNat := by
  obtain ⟨e, h1, _, rfl⟩ := mem_ends.1 h
  exact (ea_lt ha ⟨e, h1, rfl, rfl⟩).1
noncomputable def liveF (a : AutoD) : List Int := farL (AE a) (· ∈ endsL a a.edges.length) a.states.toNat
theorem liveF_len {a : AutoD} : (liveF a).length = a.states.toNat := length_farL
noncomputable def liveI (a : AutoD) (i : Nat) : Nat := bitsOf (fun p => 0 ≤ (liveF a).getD p 0) i
noncomputable def liveN (a : AutoD) : Nat := liveI a a.states.toNat
theorem liveI_yes {a : AutoD} {i : Nat} (h : 0 ≤ (liveF a).getD i 0) : liveI a (i + 1) = liveI a i ||| 2 ^ i := by
  unfold liveI; rw [bitsOf, if_pos h]
theorem liveI_no {a : AutoD} {i : Nat} (h : ¬ 0 ≤ (liveF a).getD i 0) : liveI a (i + 1) = liveI a i := by
  unfold liveI; rw [bitsOf, if_neg h]
theorem liveI_lt {a : AutoD} {n : Nat} (h : n ≤ 31) : liveI a n < 2 ^ 31 := Nat.lt_of_lt_of_le bitsOf_lt (pow_le31 h)
theorem liveN_lt {a : AutoD} : liveN a < 2 ^ a.states.toNat := bitsOf_lt
theorem dist_pos {A : Nat → Nat → Prop} {S : Nat → Prop} {p : Nat} : 0 ≤ distI A S p ↔ Rch A S p := by
  rcases dist_cases A S p with c | c
  · constructor
    · intro h; omega
    · intro h
      obtain ⟨k, hk⟩ := rch_walk h
      exact absurd hk (c.2 k)
  · exact ⟨fun _ => walk_rch c.2.1, fun _ => c.1⟩
theorem bit_live {a : AutoD} {p : Nat} : (liveN a).testBit p = true ↔ p < a.states.toNat ∧ ∃ e ∈ a.edges, inRing a e = true ∧ Rel1 (EA a) p e.src.toNat := by
  unfold liveN liveI
  rw [testBit_bitsOf]
  constructor
  · rintro ⟨h1, h2⟩
    refine ⟨h1, ?_⟩
    unfold liveF at h2
    rw [farL_at h1, dist_pos] at h2
    obtain ⟨s, hs, hr⟩ := rch_of h2
    obtain ⟨e, g1, g2, rfl⟩ := mem_ends.1 hs
    exact ⟨e, g1, g2, hr.turn⟩
  · rintro ⟨h1, e, g1, g2, g3⟩
    refine ⟨h1, ?_⟩
    unfold liveF
    rw [farL_at h1, dist_pos]
    exact rch_mk (mem_ends.2 ⟨e, g1, g2, rfl⟩) g3.turn
theorem live_word {a : AutoD} (ha : AutoOk a) : liveN a &&& a.start.toNat ≠ 0 ↔ (autoW a).2 = true := by
  constructor
  · intro h
    obtain ⟨p, hp⟩ := bit_ne h
    rw [Nat.testBit_and, Bool.and_eq_true] at hp
    obtain ⟨_, e, he, hr, hw⟩ := bit_live.1 hp.1
    obtain ⟨i, hi, rfl⟩ := mem_at he
    unfold inRing at hr
    rw [Bool.and_eq_true] at hr
    have hin := edge_in ha hi
    unfold EdgeIn at hin
    have hst := ha.1.2.1
    have hgood : goodE a i := by
      refine ⟨hr.1, ?_, hr.2⟩
      unfold autoR reachN
      rw [testBit_bitsOf]
      exact ⟨by omega, rch_mk hp.2 hw⟩
    refine Classical.byContradiction fun hn => ?_
    obtain ⟨j, ⟨h1, h2⟩, h3⟩ := least (fun i => i < a.edges.length ∧ goodE a i) ⟨i, hi, hgood⟩
    rw [autoW_at h1 h2 (fun k hk hg => by have := h3 k ⟨by omega, hg⟩; omega)] at hn
    exact hn rfl
  · intro h
    obtain ⟨i, hi, ⟨g1, g2, g3⟩, _⟩ := autoW_good h
    unfold autoR reachN at g2
    rw [testBit_bitsOf] at g2
    obtain ⟨p, hp, hw⟩ := rch_of g2.2
    have hpl := bit_lt (start_lt2 ha) hp
    intro h0
    have hb : (liveN a &&& a.start.toNat).testBit p = true := by
      rw [Nat.testBit_and, Bool.and_eq_true]
      refine ⟨bit_live.2 ⟨hpl, _, getD_mem' hi, ?_, hw⟩, hp⟩
      unfold inRing
      rw [g1, g3]; rfl
    rw [h0, Nat.zero_testBit] at hb
    cases hb
def RLiveM (xs : List AV) (r : AV) (objs : List AObj) : Prop := ∃ a, xs = [.rptr (autoRow a) 0] ∧ AutoOk a ∧ r = .int .i64 ((liveN a : Nat) : Int) ∧ objs = []
theorem RLiveM_eq {xs : List AV} {a : AutoD} (hx : xs = [.rptr (autoRow a) 0]) (h : AutoOk a) : RLiveM xs (.int .i64 ((liveN a : Nat) : Int)) [] := ⟨a, hx, h, rfl, rfl⟩
set_option maxHeartbeats 8000000 in
theorem s_impl_live : PureSound Try.prog 113 RLiveM := by
  have hR : Rely Try.prog (ctxOf [(121, .pure RAutoG), (104, .gen 0 GRings), (177, .pure RBack), (103, .pure RFar), (141, .pure RBit)]) :=
    rely_cons b_impl_Auto_graph.has s_impl_graph (rely_cons b_impl_graph_rings.has s_impl_rings (rely_cons b_impl_graph_back.has s_impl_back (rely_cons b_impl_graph_far.has s_impl_far (rely_cons b_impl_only.has s_impl_onlyB (rely_nil mixed)))))
  refine pure_of_aw b_impl_Auto_live ?_
  rintro xs r objs ⟨a, rfl, ha, rfl, rfl⟩ -
  have hs := ha.1.2.1
  have hle := length_edgeRows a.edges
  have hl := ha.2.1
  have hgl : (autoG a).length = a.states.toNat := length_mkG _ _
  have hbkl : (backG (autoG a)).length = a.states.toNat := (length_mkG _ _).trans hgl
  have hbf : farL (Adj (backG (autoG a))) (· ∈ endsL a a.edges.length) (backG (autoG a)).length = liveF a := by rw [adj_backA ha, hbkl]; rfl
  have hgk := gok_auto ha
  have hst := steps_autoG ha
  have hst2 := steps_back hgk
  refine ⟨by simp, vcS_sound hR [10] _ _ _ _ _ ?_⟩
  conv => whnf
  repeat' ((first | contradiction | (refine And.intro (fun hb => ?_) (fun hb => ?_) <;> first | contradiction | ((try simp only [SB, reduceCtorEq] at hb); try (exfalso; first | contradiction | omega))) | refine G2 ?_ | rw [ints_at (by omega)] | rw [ints_at0 (by omega)] | rw [ints_at' (by omega) (by omega)] | refine G1 ?_ | fail) <;> conv => whnf)
  refine Rg.split hR 2 ?_
  conv => whnf
  repeat' ((first | contradiction | (refine And.intro (fun hb => ?_) (fun hb => ?_) <;> first | contradiction | ((try simp only [SB, reduceCtorEq] at hb); try (exfalso; first | contradiction | omega))) | refine G2 ?_ | rw [ints_at (by omega)] | rw [ints_at0 (by omega)] | rw [ints_at' (by omega) (by omega)] | refine G1 ?_ | refine ⟨_, _, RAutoG_eq rfl ha, ?_⟩ | fail) <;> conv => whnf)
  refine ⟨[], [(0, .rptr (autoRow a) 0), (11, .rptr [.val (gRows (autoG a))] 0)], [], ⟨rfl, rfl, trivial, ?_⟩, ?_⟩
  · exact ⟨.inl rfl, .inr (snap_graph rfl rfl hgl.symm), trivial⟩
  conv => whnf
  repeat' ((first | contradiction | (refine And.intro (fun hb => ?_) (fun hb => ?_) <;> first | contradiction | ((try simp only [SB, reduceCtorEq] at hb); try (exfalso; first | contradiction | omega))) | refine G2 ?_ | rw [ints_at (by omega)] | rw [ints_at0 (by omega)] | rw [ints_at' (by omega) (by omega)] | refine G1 ?_ | refine ⟨GRings_mk hgk (by omega) hst (fun out hout => ?_)⟩ | fail) <;> conv => whnf)
  have hol : out.length = a.states.toNat := hout.1.trans hgl
  have hil := (length_ints out).trans hol
  refine Lp.intro (α := Nat) (fun i => i ≤ a.edges.length) (fun i => a.edges.length - i) (fun i => [(0, .rptr (autoRow a) 0), (3, .val (ints out)), (4, .ref 0 0 (endsL a i).length), (16, .val (edgeRows a.edges)), (17, .int .i64 a.edges.length), (18, .int .i64 i)]) (fun i => [some (.arr 1 (ints (natsI (endsL a i))))]) ?_ ?_
  · refine ⟨0, Nat.zero_le _, [none], rfl, rfl, And.intro rfl trivial, ?_⟩
    exact ⟨.inl rfl, .inr (snap_all rfl (by omega)), ⟨rfl, rfl, rfl⟩, .inl rfl, .inl (congrArg (fun x : Nat => AV.int .i64 x) hle), .inl rfl, trivial⟩
  intro i hi
  have hel := endsL_len (a := a) hi
  have hen := (length_ints (natsI (endsL a i))).trans (length_natsI _)
  refine vc2_sound hR _ _ _ _ _ ?_
  by_cases hlt : i < a.edges.length
  · have he := edge_in ha hlt
    have hat := edge_at hlt
    have hem : a.edges.getD i default ∈ a.edges := getD_mem' hlt
    have hyes := endsL_yes (a := a) hlt
    have hno := endsL_no (a := a) hlt
    unfold EdgeIn at he
    unfold inRing at hyes hno
    generalize hee : a.edges.getD i default = e at *
    have hring := ring_ok ha hout hem
    have es1 : e.src = ((e.src.toNat : Nat) : Int) := by omega
    have hsr : (ints out)[e.src.toNat]? = some [.int .i64 (out.getD e.src.toNat 0)] := by
      have := ints_at (xs := out) (i := e.src.toNat) (by omega)
      rwa [Int.toNat_natCast] at this
    have hds : (ints out)[e.dst.toNat]? = some [.int .i64 (out.getD e.dst.toNat 0)] := by
      have := ints_at (xs := out) (i := e.dst.toNat) (by omega)
      rwa [Int.toNat_natCast] at this
    conv => whnf
    repeat' ((first | contradiction | (refine And.intro (fun hb => ?_) (fun hb => ?_) <;> first | contradiction | ((try simp only [SB, reduceCtorEq] at hb); try (exfalso; first | contradiction | omega))) | refine G2 ?_ | rw [ints_at (by omega)] | rw [ints_at0 (by omega)] | rw [ints_at' (by omega) (by omega)] | refine G1 ?_ | rw [hat] | rw [hsr] | rw [hds] | fail) <;> conv => whnf)
    · rename_i b0 hb1 hb2
      have hy := hyes (by rw [hb1, hring.1 hb2]; rfl)
      refine ⟨i + 1, hlt, by omega, [some 2], rfl, rfl, And.intro (And.intro rfl ?_) trivial, ?_⟩
      · have h2 := natsI_app (l := endsL a i) (p := e.src.toNat) rfl
        rw [← es1, ← hy] at h2
        exact h2
      · exact ⟨.inl rfl, .inl rfl, congrArg (AV.ref 2 0) (by rw [hy]; simp), .inl rfl, .inl rfl, .inl rfl, trivial⟩
    · rename_i b0 hb1 hb2
      have hn := hno (by rw [hb1, Bool.true_and]; exact Bool.eq_false_iff.2 fun h => hb2 (hring.2 h))
      refine ⟨i + 1, hlt, by omega, [some 0], rfl, rfl, And.intro (And.intro rfl (by rw [hn])) trivial, ?_⟩
      exact ⟨.inl rfl, .inl rfl, congrArg (AV.ref 0 0) (by rw [hn]), .inl rfl, .inl rfl, .inl rfl, trivial⟩
    · have hn := hno (by rw [show e.mark = false by assumption]; rfl)
      refine ⟨i + 1, hlt, by omega, [some 0], rfl, rfl, And.intro (And.intro rfl (by rw [hn])) trivial, ?_⟩
      exact ⟨.inl rfl, .inl rfl, congrArg (AV.ref 0 0) (by rw [hn]), .inl rfl, .inl rfl, .inl rfl, trivial⟩
  obtain rfl : i = a.edges.length := by omega
  have hFl : (liveF a).length = a.states.toNat := liveF_len
  have hFi := (length_ints (liveF a)).trans hFl
  conv => whnf
  repeat' ((first | contradiction | (refine And.intro (fun hb => ?_) (fun hb => ?_) <;> first | contradiction | ((try simp only [SB, reduceCtorEq] at hb); try (exfalso; first | contradiction | omega))) | refine G2 ?_ | rw [ints_at (by omega)] | rw [ints_at0 (by omega)] | rw [ints_at' (by omega) (by omega)] | refine G1 ?_ | refine ⟨_, _, RAutoG_eq rfl ha, ?_⟩ | refine ⟨_, _, RBack_eq (congrArg (fun v => [v]) (snap_graph rfl rfl hgl.symm)) hgk (by omega) hst, ?_⟩ | (refine ⟨_, _, RFar_eq (G := backG (autoG a)) (src := endsL a a.edges.length) (args_cons (snap_graph rfl rfl (by omega)) (args_cons (snap_all rfl (by omega)) rfl)) (gok_back hgk) (by omega) (by omega) (fun p hp => by have := ends_lt ha hp; omega) (by omega), ?_⟩) | fail) <;> conv => whnf)
  refine Lp.intro (α := Nat) (fun i => i ≤ a.states.toNat) (fun i => a.states.toNat - i) (fun i => [(7, .int .i64 ((liveI a i : Nat) : Int)), (47, .val (ints (liveF a))), (48, .int .i64 ((a.states.toNat : Nat) : Int)), (49, .int .i64 i)]) (fun _ => []) ?_ ?_
  · refine ⟨0, Nat.zero_le _, [], rfl, rfl, trivial, ?_⟩
    exact ⟨.inl rfl, .inr ((snap_all rfl (by rw [length_ints, length_farL])).trans (congrArg AV.val (congrArg ints hbf))), .inl (congrArg (fun x : Nat => AV.int .i64 x) hbkl), .inl rfl, trivial⟩
  intro i hi
  have h31 := liveI_lt (a := a) (n := i) (by omega)
  refine vc2_sound hR _ _ _ _ _ ?_
  by_cases hlt2 : i < a.states.toNat
  · have hat := ints_at (xs := liveF a) (i := i) (by omega)
    have hyes := liveI_yes (a := a) (i := i)
    have hno := liveI_no (a := a) (i := i)
    conv => whnf
    repeat' ((first | contradiction | (refine And.intro (fun hb => ?_) (fun hb => ?_) <;> first | contradiction | ((try simp only [SB, reduceCtorEq] at hb); try (exfalso; first | contradiction | omega))) | refine G2 ?_ | rw [ints_at (by omega)] | rw [ints_at0 (by omega)] | rw [ints_at' (by omega) (by omega)] | refine G1 ?_ | rw [hat] | refine ⟨_, _, RBit_mk (by omega) (by omega), ?_⟩ | fail) <;> conv => whnf)
    · refine ⟨i + 1, hlt2, by omega, [], rfl, rfl, trivial, ?_⟩
      exact ⟨.inl (congrArg (AV.int .i64) ((or_bit h31 (by omega) (by omega)).trans (by rw [hyes (by assumption)]; simp))), .inl rfl, .inl rfl, .inl rfl, trivial⟩
    · refine ⟨i + 1, hlt2, by omega, [], rfl, rfl, trivial, ?_⟩
      exact ⟨.inl (congrArg (fun x : Nat => AV.int .i64 x) (hno (by omega)).symm), .inl rfl, .inl rfl, .inl rfl, trivial⟩
  · conv => whnf
    repeat' ((first | contradiction | (refine And.intro (fun hb => ?_) (fun hb => ?_) <;> first | contradiction | ((try simp only [SB, reduceCtorEq] at hb); try (exfalso; first | contradiction | omega))) | refine G2 ?_ | rw [ints_at (by omega)] | rw [ints_at0 (by omega)] | rw [ints_at' (by omega) (by omega)] | refine G1 ?_ | fail) <;> conv => whnf)
    obtain rfl : i = a.states.toNat := by omega
    refine ⟨.inl rfl, ?_⟩
    conv => whnf
    refine ⟨[], ⟨rfl, trivial⟩, ?_, rfl, rfl⟩
    conv => whnf
    left
    conv => lhs; whnf
    rfl
def RLiveA (xs : List AV) (r : AV) (objs : List AObj) : Prop := ∃ a, xs = [.agg (autoRow a)] ∧ r = .int .i64 ((if AutoOk a then liveN a else 0 : Nat) : Int) ∧ objs = []
theorem RLiveA_eq {xs : List AV} {a : AutoD} (hx : xs = [.agg (autoRow a)]) : RLiveA xs (.int .i64 ((if AutoOk a then liveN a else 0 : Nat) : Int)) [] := ⟨a, hx, rfl, rfl⟩
theorem s_impl_AutoLive : PureSound Try.prog 42 RLiveA := by
  have hR : Rely Try.prog (ctxOf [(70, .pure RAutoOk), (113, .pure RLiveM)]) := rely_cons b_impl_AutoOk.has s_impl_AutoOk (rely_cons b_impl_Auto_live.has s_impl_live (rely_nil mixed))
  refine pure_of_aw b_impl_AutoLive ?_
  rintro xs r objs ⟨a, rfl, rfl, rfl⟩ -
  refine ⟨by simp, vc2_sound hR _ _ _ _ _ ?_⟩
  by_cases ha : AutoOk a
  · rw [if_pos ha]
    conv => whnf
    repeat' ((first | contradiction | (refine And.intro (fun hb => ?_) (fun hb => ?_) <;> first | contradiction | ((try simp only [SB, reduceCtorEq] at hb); try (exfalso; first | contradiction | omega))) | refine G2 ?_ | rw [ints_at (by omega)] | rw [ints_at0 (by omega)] | rw [ints_at' (by omega) (by omega)] | refine G1 ?_ | refine ⟨_, _, RAutoOk_mk, ?_⟩ | refine ⟨_, _, RLiveM_eq rfl ha, ?_⟩ | fail) <;> conv => whnf)
    refine ⟨.inl rfl, ?_⟩
    conv => whnf
    refine ⟨[], ⟨rfl, trivial⟩, ?_, rfl, rfl⟩
    conv => whnf
    left
    conv => lhs; whnf
  · rw [if_neg ha]
    conv => whnf
    repeat' ((first | contradiction | (refine And.intro (fun hb => ?_) (fun hb => ?_) <;> first | contradiction | ((try simp only [SB, reduceCtorEq] at hb); try (exfalso; first | contradiction | omega))) | refine G2 ?_ | rw [ints_at (by omega)] | rw [ints_at0 (by omega)] | rw [ints_at' (by omega) (by omega)] | refine G1 ?_ | refine ⟨_, _, RAutoOk_mk, ?_⟩ | fail) <;> conv => whnf)
    refine ⟨.inl rfl, ?_⟩
    conv => whnf
    refine ⟨[], ⟨rfl, trivial⟩, ?_, rfl, rfl⟩
    conv => whnf
    left
    conv => lhs; whnf
    rfl
def RAutoEmpty (xs : List AV) (r : AV) (objs : List AObj) : Prop := ∃ (a : AutoD) (b : Bool), xs = [.agg (autoRow a)] ∧ (b = true ↔ AutoOk a ∧ (autoW a).2 = false) ∧ r = .bool b ∧ objs = []
theorem RAutoEmpty_is {xs : List AV} {a : AutoD} {b : Bool} (hx : xs = [.agg (autoRow a)]) (h : b = true ↔ AutoOk a ∧ (autoW a).2 = false) : RAutoEmpty xs (.bool b) [] := ⟨a, b, hx, h, rfl, rfl⟩
theorem s_impl_AutoEmpty : PureSound Try.prog 59 RAutoEmpty := by
  have hR : Rely Try.prog (ctxOf [(70, .pure RAutoOk), (113, .pure RLiveM)]) := rely_cons b_impl_AutoOk.has s_impl_AutoOk (rely_cons b_impl_Auto_live.has s_impl_live (rely_nil mixed))
  refine pure_of_aw b_impl_AutoEmpty ?_
  rintro xs r objs ⟨a, b, rfl, hbb, rfl, rfl⟩ -
  refine ⟨by simp, vc2_sound hR _ _ _ _ _ ?_⟩
  by_cases ha : AutoOk a
  · have hs := ha.1.2.1
    have hst := ha.1.2.2
    have h31 := lt31 ha (liveN_lt (a := a))
    have hs31 := lt31 ha (start_lt2 ha)
    have es : a.start = ((a.start.toNat : Nat) : Int) := by omega
    have hand := and_valN (X := liveN a) (Y := a.start.toNat) (by omega) (by omega)
    rw [← es] at hand
    have hlw := live_word ha
    cases b with
    | true =>
      have h0 : liveN a &&& a.start.toNat = 0 := Classical.byContradiction fun h => by
        have := hlw.1 h
        rw [(hbb.1 rfl).2] at this
        cases this
      conv => whnf
      repeat' ((first | contradiction | (refine And.intro (fun hb => ?_) (fun hb => ?_) <;> first | contradiction | ((try simp only [SB, reduceCtorEq] at hb); try (exfalso; first | contradiction | omega))) | refine G2 ?_ | rw [ints_at (by omega)] | rw [ints_at0 (by omega)] | rw [ints_at' (by omega) (by omega)] | refine G1 ?_ | refine ⟨_, _, RAutoOk_mk, ?_⟩ | refine ⟨_, _, RLiveM_eq rfl ha, ?_⟩ | fail) <;> conv => whnf)
      refine ⟨.inl rfl, ?_⟩
      conv => whnf
      refine ⟨[], ⟨rfl, trivial⟩, ?_, rfl, rfl⟩
      conv => whnf
      left
      conv => lhs; whnf
    | false =>
      have h0 : liveN a &&& a.start.toNat ≠ 0 := fun h => by
        have h1 : ¬ (autoW a).2 = true := fun h2 => (hlw.2 h2) h
        have := hbb.2 ⟨ha, by simpa using h1⟩
        cases this
      conv => whnf
      repeat' ((first | contradiction | (refine And.intro (fun hb => ?_) (fun hb => ?_) <;> first | contradiction | ((try simp only [SB, reduceCtorEq] at hb); try (exfalso; first | contradiction | omega))) | refine G2 ?_ | rw [ints_at (by omega)] | rw [ints_at0 (by omega)] | rw [ints_at' (by omega) (by omega)] | refine G1 ?_ | refine ⟨_, _, RAutoOk_mk, ?_⟩ | refine ⟨_, _, RLiveM_eq rfl ha, ?_⟩ | fail) <;> conv => whnf)
      refine ⟨.inl rfl, ?_⟩
      conv => whnf
      refine ⟨[], ⟨rfl, trivial⟩, ?_, rfl, rfl⟩
      conv => whnf
      left
      conv => lhs; whnf
  · obtain rfl : b = false := Bool.eq_false_iff.2 fun h => ha (hbb.1 h).1
    conv => whnf
    repeat' ((first | contradiction | (refine And.intro (fun hb => ?_) (fun hb => ?_) <;> first | contradiction | ((try simp only [SB, reduceCtorEq] at hb); try (exfalso; first | contradiction | omega))) | refine G2 ?_ | rw [ints_at (by omega)] | rw [ints_at0 (by omega)] | rw [ints_at' (by omega) (by omega)] | refine G1 ?_ | refine ⟨_, _, RAutoOk_mk, ?_⟩ | fail) <;> conv => whnf)
    refine ⟨.inl rfl, ?_⟩
    conv => whnf
    refine ⟨[], ⟨rfl, trivial⟩, ?_, rfl, rfl⟩
    conv => whnf
    left
    conv => lhs; whnf
end Go.Proofs.Ythanhknkoikbfaa.Ct
namespace Go.Proofs.Ythanhknkoikbfaa.Ct
set_option linter.unusedSimpArgs false
set_option linter.unusedVariables false
open Go Go.Proofs Go.Proofs.Ythanhknkoikbfaa.Av Go.Proofs.Ythanhknkoikbfaa.Pl
theorem aword_small {a : AutoD} (ha : AutoOk a) : (autoW a).1.1.length ≤ 1000 ∧ (autoW a).1.2.length ≤ 1000 := by
  by_cases h : ∃ i, i < a.edges.length ∧ goodE a i
  · obtain ⟨i, ⟨h1, h2⟩, h3⟩ := least _ h
    rw [autoW_at h1 h2 (fun j hj hg => by have := h3 j ⟨by omega, hg⟩; omega)]
    have he := edge_in ha h1
    unfold EdgeIn at he
    have g1 := path_len ha (X := a.start.toNat) (t := (a.edges.getD i default).src.toNat) (by omega)
    have g2 := path_len ha (X := 2 ^ (a.edges.getD i default).dst.toNat) (t := (a.edges.getD i default).src.toNat) (by omega)
    simp only [wordE, length_natsI, List.length_cons]
    omega
  · rw [autoW_none (fun j hj hg => h ⟨j, hj, hg⟩)]
    simp
noncomputable def sayW (a : AutoD) : (List Int × List Int) × Bool := open Classical in if AutoOk a then autoW a else (([], []), false)
theorem RAWord_eq {xs : List AV} {a : AutoD} (hx : xs = [.agg (autoRow a)]) : RAWord xs (wordR (sayW a)) (wordO (sayW a)) := by
  refine ⟨a, hx, ?_, ?_⟩ <;> (unfold sayW; split <;> rfl)
theorem sayW_small {a : AutoD} : (sayW a).1.1.length ≤ 1000 ∧ (sayW a).1.2.length ≤ 1000 := by
  unfold sayW
  split
  · rename_i h; exact aword_small h
  · simp
theorem sayW_yes {a : AutoD} (h : (sayW a).2 = true) : AutoOk a ∧ (autoW a).2 = true ∧ sayW a = autoW a := by
  unfold sayW at h ⊢
  split at h
  · rename_i ha; rw [if_pos ha]; exact ⟨ha, h, rfl⟩
  · cases h
theorem sayW_no {a : AutoD} (h : (sayW a).2 = false) : (AutoOk a → (autoW a).2 = false) ∧ sayW a = (([], []), false) := by
  unfold sayW at h ⊢
  split at h
  · rename_i ha
    refine ⟨fun _ => h, ?_⟩
    rw [if_pos ha]
    refine Classical.byContradiction fun hc => ?_
    by_cases hex : ∃ i, i < a.edges.length ∧ goodE a i
    · obtain ⟨i, ⟨h1, h2⟩, h3⟩ := least _ hex
      rw [autoW_at h1 h2 (fun j hj hg => by have := h3 j ⟨by omega, hg⟩; omega)] at h
      cases h
    · exact hc (autoW_none (fun j hj hg => hex ⟨j, hj, hg⟩))
  · rename_i ha
    refine ⟨fun h => absurd h ha, ?_⟩
    rw [if_neg ha]
end Go.Proofs.Ythanhknkoikbfaa.Ct
namespace Go.Proofs.Ythanhknkoikbfaa.Ct
set_option linter.unusedSimpArgs false
set_option linter.unusedVariables false
open Go Go.Proofs Go.Proofs.Ythanhknkoikbfaa.Av
def c_laws_big : ICode := (.seq (.reg [Ol 2 .mv [cb false]]) (.seq (.reg [O1 3 .mv 0, O1 4 .len 3, Ol 5 (.bin .gtr) [.t 4, ci 1048576], O1 2 .mv 5]) .ret))
theorem b_laws_big : Body Try.prog 35 6 c_laws_big [(.t 2)] := body_mk Try.func35 (by kernel_rfl) (by decide)
def RBig (xs : List AV) (r : AV) (objs : List AObj) : Prop := ∃ code : List UInt8, xs = [.val (code.map byteRow)] ∧ r = .bool (decide (1048576 < code.length)) ∧ objs = []
theorem RBig_mk {code : List UInt8} : RBig [.val (code.map byteRow)] (.bool (decide (1048576 < code.length))) [] := ⟨code, rfl, rfl, rfl⟩
theorem s_laws_big : PureSound Try.prog 35 RBig := by
  have hR : Rely Try.prog (ctxOf []) := rely_nil mixed
  refine pure_of_aw b_laws_big ?_
  rintro xs r objs ⟨code, rfl, rfl, rfl⟩ -
  have hbl : (code.map byteRow).length = code.length := by simp
  refine ⟨by simp, vc2_sound hR _ _ _ _ _ ?_⟩
  conv => whnf
  repeat' ((first | (refine And.intro (fun hb => ?_) (fun hb => ?_) <;> ((try simp only [SB, reduceCtorEq] at hb); try (exfalso; omega))) | refine G2 ?_ | rw [ints_at (by omega)] | rw [ints_at0 (by omega)] | rw [ints_at' (by omega) (by omega)] | refine G1 ?_ | fail) <;> conv => whnf)
  · refine ⟨.inl rfl, ?_⟩
    conv => whnf
    refine ⟨[], ⟨rfl, trivial⟩, ?_, rfl, rfl⟩
    conv => whnf
    left
    conv => lhs; whnf
    exact congrArg AV.bool (decide_eq_true (by omega)).symm
  · refine ⟨.inl rfl, ?_⟩
    conv => whnf
    refine ⟨[], ⟨rfl, trivial⟩, ?_, rfl, rfl⟩
    conv => whnf
    left
    conv => lhs; whnf
    exact congrArg AV.bool (decide_eq_false (by omega)).symm
def RTrueCode (xs : List AV) (r : AV) (objs : List AObj) : Prop := ∃ code : List UInt8, xs = [.val (code.map byteRow)] ∧ r = .bool true ∧ objs = []
end Go.Proofs.Ythanhknkoikbfaa.Ct
namespace Go.Proofs.Ythanhknkoikbfaa.Ct
set_option linter.unusedSimpArgs false
set_option linter.unusedVariables false
open Go Go.Proofs Go.Proofs.Ythanhknkoikbfaa.Av Go.Proofs.Ythanhknkoikbfaa.Pl
def c_laws_FnFound : ICode := (.seq (.reg [Ol 2 .mv [cb false]]) (.seq (.seq (.reg [O1 10 .mv 0, O1 11 (.call 35) 10]) (.cond (.t 11) (.seq (.reg [Ol 2 .mv [cb true]]) .ret) .skip)) (.seq (.reg [O1 12 .mv 0, O1 13 (.call 56) 12, O0 3 (.alc [(.int .i64 0), (.int .i64 0), (.int .i64 0), .snil]), S2 (.st 4) 3 13]) (.seq (.reg [O1 15 (.ldn 4) 3, O1 16 (.call 57) 15, O1 14 .mv 16, O1 17 (.ext 0) 14, O1 18 (.ext 1) 14, O0 4 (.alc [.snil, .snil]), S2 (.st 2) 4 17, O1 5 .mv 18]) (.seq (.reg [O1 20 (.ldn 4) 3, O1 21 (.call 58) 20, O1 19 .mv 21, O1 22 (.ext 0) 19, O1 23 (.ext 1) 19, O0 6 (.alc [.snil, .snil]), S2 (.st 2) 6 22, O1 7 .mv 23]) (.seq (.seq (.drw [O1 24 .mv 5, O1 25 .mv 7, O2 26 (.beq true) 24 25, O1 27 .mv 26, Og 28 (.ldn 4) [.t 3] 27 false, Og 29 (.call 59) [.t 28] 27 false, Og 30 (.ldn 4) [.t 3] 27 false, Og 31 (.call 38) [.t 30] 27 false, Og 32 .mv [.t 31] 27 false, Og 33 .mv [.t 7] 32 true, Og 34 .not [.t 33] 32 true, Og 35 .pick [.t 32, .t 34, cb false] 27 false, Og 36 (.beq true) [.t 29, .t 35] 27 false, Ol 37 .pick [.t 27, cb true, .t 36]] (unB [0, 0, 3, 7, 15, 31, 15, 127, 255, 511, 1023, 2047, 4095, 8191] 0) true true) (.cond (.t 37) (.seq (.reg [Ol 2 .mv [cb false]]) .ret) .skip)) (.seq (.seq (.reg [O1 38 .mv 5]) (.cond (.t 38) (.seq (.drw [O1 39 (.ldn 4) 3, O1 40 (.ldn 2) 4, O2 41 (.call 39) 39 40, O1 42 .mv 41, Og 43 (.ldn 4) [.t 3] 42 true, Og 44 (.call 42) [.t 43] 42 true, Og 45 (.fadr 2) [.t 3] 42 true, Og 46 .ld1 [.t 45] 42 true, Og 47 (.bin .and) [.t 44, .t 46] 42 true, Og 48 (.bin .neq) [.t 47, ci 0] 42 true, Ol 49 .pick [.t 42, .t 48, cb false], O1 2 .mv 49] (unB [0, 0, 3, 7, 15, 31, 15, 79, 255, 511, 1023, 2047] 0) true true) .ret) .skip)) (.seq (.reg [O1 51 .mv 0, O1 52 (.call 36) 51, O1 50 .mv 52, O1 53 (.ext 0) 50, O1 54 (.ext 1) 50, O0 8 (.alc [(.int .i64 0), (.int .i64 0), (.int .i64 0), .snil]), O0 9 (.alc [.snil, .snil]), S2 (.st 4) 8 53, S2 (.st 2) 9 54]) (.seq (.reg [O1 55 (.ldn 4) 3, O1 56 (.ldn 2) 9, O2 57 (.call 39) 55 56, O1 58 .not 57, O1 59 .mv 58, Og 60 (.fadr 1) [.t 4] 59 true, Og 61 .ld1 [.t 60] 59 true, Og 62 .len [.t 61] 59 true, Og 63 (.bin .eql) [.t 62, ci 0] 59 true, Ol 64 .pick [.t 59, .t 63, cb false], O1 2 .mv 64]) .ret)))))))))
theorem b_laws_FnFound : Body Try.prog 10 65 c_laws_FnFound [(.t 2)] := body_mk Try.func10 (by kernel_rfl) (by decide)
set_option maxRecDepth 4000 in
set_option maxHeartbeats 8000000 in
theorem s_laws_FnFound : PureSound Try.prog 10 RTrueCode := by
  have hR : Rely Try.prog (ctxOf [(35, .pure RBig), (56, .gen 0 GDrawE), (57, .pure RAWord), (58, .pure RAWord), (38, .pure RAutoOk), (59, .pure RAutoEmpty), (39, .pure RTakesA), (42, .pure RLiveA), (36, .gen 0 GDrawAW)]) :=
    rely_cons b_laws_big.has s_laws_big (rely_cons b_spec_DrawAutoEmpty.has s_spec_DrawAutoEmpty (rely_cons b_impl_AutoWord.has s_impl_AutoWord (rely_cons b_spec_AutoWord.has s_spec_AutoWord (rely_cons b_spec_AutoOk.has s_spec_AutoOk (rely_cons b_impl_AutoEmpty.has s_impl_AutoEmpty (rely_cons b_impl_AutoTakes.has s_impl_AutoTakes (rely_cons b_impl_AutoLive.has s_impl_AutoLive (rely_cons b_spec_DrawAutoTakes.has s_spec_DrawAutoTakes (rely_nil mixed)))))))))
  refine pure_of_aw b_laws_FnFound ?_
  rintro xs r objs ⟨code, rfl, rfl, rfl⟩ -
  refine ⟨by simp, vcS_sound hR [12] _ _ _ _ _ ?_⟩
  conv => whnf
  repeat' ((first | (refine And.intro (fun hb => ?_) (fun hb => ?_) <;> ((try simp only [SB, reduceCtorEq] at hb); try (exfalso; omega))) | refine G2 ?_ | rw [ints_at (by omega)] | rw [ints_at0 (by omega)] | rw [ints_at' (by omega) (by omega)] | refine G1 ?_ | refine ⟨_, _, RBig_mk, ?_⟩ | fail) <;> conv => whnf)
  · refine ⟨.inl rfl, ?_⟩
    conv => whnf
    refine ⟨[], ⟨rfl, trivial⟩, ?_, rfl, rfl⟩
    conv => whnf
    left
    conv => lhs; whnf
  have h2 : code.length ≤ 1048576 := by omega
  refine Rg.split hR 2 ?_
  conv => whnf
  repeat' ((first | (refine And.intro (fun hb => ?_) (fun hb => ?_) <;> ((try simp only [SB, reduceCtorEq] at hb); try (exfalso; omega))) | refine G2 ?_ | rw [ints_at (by omega)] | rw [ints_at0 (by omega)] | rw [ints_at' (by omega) (by omega)] | refine G1 ?_ | refine ⟨GDrawE_mk h2 (fun a ha => ?_)⟩ | fail) <;> conv => whnf)
  refine ⟨[some 0], [(0, .val (code.map byteRow)), (2, .bool false), (13, .agg (autoRef 0 a))], [some (.arr 4 (edgeRows a.edges))], ⟨rfl, rfl, And.intro (And.intro rfl rfl) trivial, ?_⟩, ?_⟩
  · exact ⟨.inl rfl, .inl rfl, And.intro (.inl rfl) (And.intro (.inl rfl) (And.intro (.inl rfl) (And.intro rfl trivial))), trivial⟩
  have hsm := sayW_small (a := a)
  have hg : ∀ xs, xs = [.agg (autoRow a)] → RAWord xs (wordR (sayW a)) (wordO (sayW a)) := fun xs h => RAWord_eq h
  have hyes := sayW_yes (a := a)
  have hno := sayW_no (a := a)
  generalize sayW a = g at hg hsm hyes hno
  obtain ⟨⟨s, l⟩, ok⟩ := g
  dsimp only at hsm hyes hno
  cases ok with
  | true =>
    obtain ⟨hok, hw, he⟩ := hyes rfl
    have hT : TakesA a s l := by
      have := autoW_takes hok hw
      rwa [← he] at this
    have hlw := (live_word hok).2 hw
    have hok' : decide (AutoOk a) = true := decide_eq_true hok
    have hlv : ∀ xs, xs = [.agg (autoRow a)] → RLiveA xs (.int .i64 ((liveN a : Nat) : Int)) [] := fun xs h => by
      have := RLiveA_eq h
      rwa [if_pos hok] at this
    have hst := hok.1.2.2
    have h31 := lt31 hok (liveN_lt (a := a))
    have hs31 := lt31 hok (start_lt2 hok)
    have hand := and_valN (X := liveN a) (Y := a.start.toNat) (by omega) (by omega)
    rw [show ((a.start.toNat : Nat) : Int) = a.start by omega] at hand
    generalize liveN a &&& a.start.toNat = z at hand hlw
    have hz : ¬ IntKind.i64.wrap (BitVec.ofInt IntKind.i64.bits ((liveN a : Nat) : Int) &&& BitVec.ofInt IntKind.i64.bits a.start).toNat = 0 := by rw [hand]; omega
    conv => whnf
    repeat' ((first | contradiction | (refine And.intro (fun hb => ?_) (fun hb => ?_) <;> first | contradiction | ((try simp only [SB, reduceCtorEq] at hb); try (exfalso; first | contradiction | omega))) | refine G2 ?_ | rw [ints_at (by omega)] | rw [ints_at0 (by omega)] | rw [ints_at' (by omega) (by omega)] | refine G1 ?_ | refine ⟨_, _, hg _ (args_cons (snap_auto rfl) rfl), ?_⟩ | (refine ⟨_, _, RAutoEmpty_is (b := false) (args_cons (snap_auto rfl) rfl) ⟨fun h => (by cases h), fun h => by rw [hw] at h; cases h.2⟩, ?_⟩) | refine ⟨_, _, RAutoOk_is (args_cons (snap_auto rfl) rfl) hok', ?_⟩ | refine ⟨_, _, RTakesA_is (b := true) (args_cons (snap_auto rfl) (args_cons (snap_woT rfl rfl rfl rfl) rfl)) ⟨fun _ => hT, fun _ => rfl⟩, ?_⟩ | refine ⟨_, _, hlv _ (args_cons (snap_auto rfl) rfl), ?_⟩ | fail) <;> conv => whnf)
    refine ⟨.inl rfl, ?_⟩
    conv => whnf
    refine ⟨[], ⟨rfl, trivial⟩, ?_, rfl, rfl⟩
    conv => whnf
    left
    conv => lhs; whnf
  | false =>
    obtain ⟨hn, he⟩ := hno rfl
    obtain ⟨hsl, _⟩ := Prod.mk.inj he
    obtain ⟨rfl, rfl⟩ := Prod.mk.inj hsl
    have hno2 : ∀ s l, false = true ↔ TakesA a s l := fun s l => ⟨fun h => (by cases h), fun h => by
      have h1 := takes_autoW h
      rw [hn h.1] at h1
      cases h1⟩
    by_cases hok : AutoOk a
    · have hok' : decide (AutoOk a) = true := decide_eq_true hok
      conv => whnf
      repeat' ((first | contradiction | (refine And.intro (fun hb => ?_) (fun hb => ?_) <;> first | contradiction | ((try simp only [SB, reduceCtorEq] at hb); try (exfalso; first | contradiction | omega))) | refine G2 ?_ | rw [ints_at (by omega)] | rw [ints_at0 (by omega)] | rw [ints_at' (by omega) (by omega)] | refine G1 ?_ | refine ⟨_, _, hg _ (args_cons (snap_auto rfl) rfl), ?_⟩ | refine ⟨_, _, RAutoEmpty_is (b := true) (args_cons (snap_auto rfl) rfl) ⟨fun _ => ⟨hok, hn hok⟩, fun _ => rfl⟩, ?_⟩ | refine ⟨_, _, RAutoOk_is (args_cons (snap_auto rfl) rfl) hok', ?_⟩ | refine ⟨GDrawAW_mk h2 (fun a2 s2 l2 k1 k2 k3 => ?_)⟩ | refine ⟨_, _, RTakesA_is (b := false) (args_cons (snap_auto rfl) (args_cons (snap_woT rfl rfl rfl rfl) rfl)) (hno2 _ _), ?_⟩ | fail) <;> conv => whnf)
      refine ⟨.inl rfl, ?_⟩
      conv => whnf
      refine ⟨[], ⟨rfl, trivial⟩, ?_, rfl, rfl⟩
      conv => whnf
      left
      conv => lhs; whnf
    · have hok' : decide (AutoOk a) = false := decide_eq_false hok
      conv => whnf
      repeat' ((first | contradiction | (refine And.intro (fun hb => ?_) (fun hb => ?_) <;> first | contradiction | ((try simp only [SB, reduceCtorEq] at hb); try (exfalso; first | contradiction | omega))) | refine G2 ?_ | rw [ints_at (by omega)] | rw [ints_at0 (by omega)] | rw [ints_at' (by omega) (by omega)] | refine G1 ?_ | refine ⟨_, _, hg _ (args_cons (snap_auto rfl) rfl), ?_⟩ | refine ⟨_, _, RAutoEmpty_is (b := false) (args_cons (snap_auto rfl) rfl) ⟨fun h => (by cases h), fun h => absurd h.1 hok⟩, ?_⟩ | refine ⟨_, _, RAutoOk_is (args_cons (snap_auto rfl) rfl) hok', ?_⟩ | refine ⟨GDrawAW_mk h2 (fun a2 s2 l2 k1 k2 k3 => ?_)⟩ | refine ⟨_, _, RTakesA_is (b := false) (args_cons (snap_auto rfl) (args_cons (snap_woT rfl rfl rfl rfl) rfl)) (hno2 _ _), ?_⟩ | fail) <;> conv => whnf)
      refine ⟨.inl rfl, ?_⟩
      conv => whnf
      refine ⟨[], ⟨rfl, trivial⟩, ?_, rfl, rfl⟩
      conv => whnf
      left
      conv => lhs; whnf
end Go.Proofs.Ythanhknkoikbfaa.Ct
