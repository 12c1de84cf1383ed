/- Graphs made of lists of steps: of an automaton, turned. -/
import Derived.Test.YtpfbkblgefddlaaCtGraph1
namespace Go.Proofs.Ytpfbkblgefddlaa.Ct
set_option linter.unusedSimpArgs false
set_option linter.unusedVariables false
open Go Go.Proofs Go.Proofs.Ytpfbkblgefddlaa.Av Go.Proofs.Ytpfbkblgefddlaa.Pl

def c_impl_Auto_graph : ICode := (.seq (.reg [⟨(some 2), .mv, [(.c .pnil)], none⟩]) (.seq (.reg [⟨(some 7), .mv, [(.t 0)], none⟩, ⟨(some 8), .nck, [(.t 7)], none⟩, ⟨(some 9), (.fadr 1), [(.t 8)], none⟩, ⟨(some 10), .ld1, [(.t 9)], none⟩, ⟨(some 11), (.call 159), [(.t 10)], none⟩, ⟨(some 3), .mv, [(.t 11)], none⟩]) (.seq (.seq (.reg [⟨(some 12), .mv, [(.t 0)], none⟩, ⟨(some 13), .nck, [(.t 12)], none⟩, ⟨(some 14), (.fadr 3), [(.t 13)], none⟩, ⟨(some 15), .ld1, [(.t 14)], none⟩, ⟨(some 16), .len, [(.t 15)], none⟩, ⟨(some 17), .mv, [(.c (.int .i64 0))], none⟩]) (.block 0 (.loop (.seq (.reg [⟨(some 18), (.bin .lss), [(.t 17), (.t 16)], none⟩]) (.seq (.cond (.t 18) .skip (.exit 0)) (.seq (.block 1 (.seq (.reg [⟨(some 19), (.iadr 4), [(.t 15), (.t 17)], none⟩, ⟨(some 20), (.ldn 4), [(.t 19)], none⟩, ⟨(some 5), (.alc [(.int .i64 0), (.int .i64 0), (.int .i64 0), (.bool false)]), [], none⟩, ⟨none, (.st 4), [(.t 5), (.t 20)], none⟩]) (.seq (.reg [⟨(some 6), .mv, [(.c (.int .i64 0))], none⟩]) (.seq (.seq (.reg [⟨(some 21), (.fadr 3), [(.t 5)], none⟩, ⟨(some 22), .ld1, [(.t 21)], none⟩]) (.cond (.t 22) (.reg [⟨(some 6), .mv, [(.c (.int .i64 1))], none⟩]) .skip)) (.reg [⟨(some 23), .mv, [(.t 3)], none⟩, ⟨(some 24), (.fadr 0), [(.t 5)], none⟩, ⟨(some 25), .ld1, [(.t 24)], none⟩, ⟨(some 26), (.fadr 2), [(.t 5)], none⟩, ⟨(some 27), .ld1, [(.t 26)], none⟩, ⟨(some 28), .mv, [(.t 6)], none⟩, ⟨(some 29), (.call 160), [(.t 23), (.t 25), (.t 27), (.t 28)], none⟩]))))) (.reg [⟨(some 30), (.bin .add), [(.t 17), (.c (.int .i64 1))], none⟩, ⟨(some 17), .mv, [(.t 30)], none⟩]))))))) (.seq (.reg [⟨(some 31), .mv, [(.t 3)], none⟩, ⟨(some 2), .mv, [(.t 31)], none⟩]) .ret))))
theorem b_impl_Auto_graph : Body Try.prog 115 32 c_impl_Auto_graph [(.t 2)] := body_mk Try.func115 (by kernel_rfl) (by decide)

def c_impl_graph_back : ICode := (.seq (.reg [⟨(some 2), .mv, [(.c .pnil)], none⟩]) (.seq (.reg [⟨(some 8), .mv, [(.t 0)], none⟩, ⟨(some 9), .nck, [(.t 8)], none⟩, ⟨(some 10), (.fadr 0), [(.t 9)], none⟩, ⟨(some 11), .ld1, [(.t 10)], none⟩, ⟨(some 12), .len, [(.t 11)], none⟩, ⟨(some 13), (.call 159), [(.t 12)], none⟩, ⟨(some 3), .mv, [(.t 13)], none⟩]) (.seq (.seq (.reg [⟨(some 14), .mv, [(.t 0)], none⟩, ⟨(some 15), .nck, [(.t 14)], none⟩, ⟨(some 16), (.fadr 0), [(.t 15)], none⟩, ⟨(some 17), .ld1, [(.t 16)], none⟩, ⟨(some 18), .len, [(.t 17)], none⟩, ⟨(some 19), .mv, [(.c (.int .i64 0))], none⟩]) (.block 0 (.loop (.seq (.reg [⟨(some 20), (.bin .lss), [(.t 19), (.t 18)], none⟩]) (.seq (.cond (.t 20) .skip (.exit 0)) (.seq (.block 1 (.seq (.reg [⟨(some 21), .mv, [(.t 19)], none⟩, ⟨(some 22), (.iadr 1), [(.t 17), (.t 19)], none⟩, ⟨(some 23), .ld1, [(.t 22)], none⟩, ⟨(some 4), .mv, [(.t 21)], none⟩, ⟨(some 5), .mv, [(.t 23)], none⟩]) (.seq (.reg [⟨(some 24), .mv, [(.t 5)], none⟩, ⟨(some 25), .len, [(.t 24)], none⟩, ⟨(some 26), .mv, [(.c (.int .i64 0))], none⟩]) (.block 2 (.loop (.seq (.reg [⟨(some 27), (.bin .lss), [(.t 26), (.t 25)], none⟩]) (.seq (.cond (.t 27) .skip (.exit 2)) (.seq (.block 3 (.seq (.reg [⟨(some 28), (.iadr 2), [(.t 24), (.t 26)], none⟩, ⟨(some 29), (.ldn 2), [(.t 28)], none⟩, ⟨(some 7), (.alc [(.int .i64 0), (.int .i64 0)]), [], none⟩, ⟨none, (.st 2), [(.t 7), (.t 29)], none⟩]) (.reg [⟨(some 30), .mv, [(.t 3)], none⟩, ⟨(some 31), (.fadr 0), [(.t 7)], none⟩, ⟨(some 32), .ld1, [(.t 31)], none⟩, ⟨(some 33), .mv, [(.t 4)], none⟩, ⟨(some 34), (.fadr 1), [(.t 7)], none⟩, ⟨(some 35), .ld1, [(.t 34)], none⟩, ⟨(some 36), (.call 160), [(.t 30), (.t 32), (.t 33), (.t 35)], none⟩]))) (.reg [⟨(some 37), (.bin .add), [(.t 26), (.c (.int .i64 1))], none⟩, ⟨(some 26), .mv, [(.t 37)], none⟩]))))))))) (.reg [⟨(some 38), (.bin .add), [(.t 19), (.c (.int .i64 1))], none⟩, ⟨(some 19), .mv, [(.t 38)], none⟩]))))))) (.seq (.reg [⟨(some 39), .mv, [(.t 3)], none⟩, ⟨(some 2), .mv, [(.t 39)], none⟩]) .ret))))
theorem b_impl_graph_back : Body Try.prog 162 40 c_impl_graph_back [(.t 2)] := body_mk Try.func162 (by kernel_rfl) (by decide)


/-- a step: from, to, marks -/
abbrev Trip := Nat × Nat × Int
def mkG (n : Nat) (l : List Trip) : GraphD := (List.range n).map fun x => (l.filter fun e => e.1 == x).map fun e => e.2
@[simp] theorem length_mkG (n : Nat) (l : List Trip) : (mkG n l).length = n := by simp [mkG]
theorem mkG_at {n x : Nat} {l : List Trip} (h : x < n) : (mkG n l).getD x [] = (l.filter fun e => e.1 == x).map fun e => e.2 := by simp [mkG, h]
theorem mkG_nil (n : Nat) : mkG n [] = List.replicate n [] := by
  refine List.ext_getElem (by simp) fun i h1 h2 => ?_
  simp [mkG]
theorem mkG_small {n x : Nat} {l : List Trip} : ((mkG n l).getD x []).length ≤ l.length := by
  by_cases h : x < n
  · rw [mkG_at h, List.length_map]
    exact List.length_filter_le _ _
  · rw [List.getD_eq_getElem?_getD, List.getElem?_eq_none (by simp; omega)]
    simp
theorem gAdd_mkG {n f t : Nat} {l : List Trip} {m : Int} (hf : f < n) : gAdd (mkG n l) f t m = mkG n (l ++ [(f, t, m)]) := by
  refine List.ext_getElem (by simp) fun i h1 h2 => ?_
  have hi : i < n := by simpa using h2
  have e : (gAdd (mkG n l) f t m)[i] = ((mkG n l).set f ((mkG n l).getD f [] ++ [(t, m)]))[i]'(by simpa using hi) := rfl
  rw [e, List.getElem_set]
  split
  · rename_i he
    subst he
    rw [mkG_at hf]
    simp [mkG, List.filter_append]
  · rename_i he
    simp [mkG, List.filter_append, he]

/-- the relation of a graph -/
def Adj (G : GraphD) (p r : Nat) : Prop := ∃ m, (r, m) ∈ G.getD p []
def GOk (G : GraphD) : Prop := ∀ p, ∀ s ∈ G.getD p [], s.1 < G.length
theorem adj_lt {G : GraphD} (h : GOk G) {p r : Nat} (ha : Adj G p r) : p < G.length ∧ r < G.length := by
  obtain ⟨m, hm⟩ := ha
  refine ⟨?_, h p _ hm⟩
  rcases Nat.lt_or_ge p G.length with hp | hp
  · exact hp
  · rw [List.getD_eq_getElem?_getD, List.getElem?_eq_none hp] at hm
    simp at hm
theorem mem_mkG {n x t : Nat} {m : Int} {l : List Trip} : (t, m) ∈ (mkG n l).getD x [] ↔ x < n ∧ (x, t, m) ∈ l := by
  by_cases h : x < n
  · rw [mkG_at h]
    simp only [List.mem_map, List.mem_filter, beq_iff_eq, h, true_and]
    constructor
    · rintro ⟨e, ⟨h1, rfl⟩, h2⟩
      obtain ⟨a, b, c⟩ := e
      cases h2
      exact h1
    · exact fun h1 => ⟨(x, t, m), ⟨h1, rfl⟩, rfl⟩
  · rw [List.getD_eq_getElem?_getD, List.getElem?_eq_none (by simp; omega)]
    simp [h]
theorem adj_mkG {n x t : Nat} {l : List Trip} : Adj (mkG n l) x t ↔ x < n ∧ ∃ m, (x, t, m) ∈ l := by
  unfold Adj
  simp only [mem_mkG]
  exact ⟨fun ⟨m, h1, h2⟩ => ⟨h1, m, h2⟩, fun ⟨h1, m, h2⟩ => ⟨m, h1, h2⟩⟩
theorem gok_mkG {n : Nat} {l : List Trip} (h : ∀ e ∈ l, e.2.1 < n) : GOk (mkG n l) := by
  rintro p ⟨t, m⟩ hs
  rw [length_mkG]
  exact h _ (mem_mkG.1 hs).2

/-! ### the graph of an automaton -/

def trip (e : EdgeD) : Trip := (e.src.toNat, e.dst.toNat, if e.mark = true then 1 else 0)
def autoG (a : AutoD) : GraphD := mkG a.states.toNat (a.edges.map trip)

def RAutoG (xs : List AV) (r : AV) (objs : List AObj) : Prop := ∃ a, xs = [.rptr (autoRow a) 0] ∧ AutoOk a ∧ r = .ptr 0 0 0 ∧ objs = [gBox 1 a.states.toNat, gNst (autoG a)]
theorem RAutoG_eq {xs : List AV} {a : AutoD} (hx : xs = [.rptr (autoRow a) 0]) (h : AutoOk a) : RAutoG xs (.ptr 0 0 0) [gBox 1 a.states.toNat, gNst (autoG a)] := ⟨a, hx, h, rfl, rfl⟩

theorem edge_in {a : AutoD} (h : AutoOk a) {i : Nat} (hi : i < a.edges.length) : EdgeIn a (a.edges.getD i default) := (h.2.2 i hi).1
theorem trip_take {l : List EdgeD} {i : Nat} (hi : i < l.length) : (l.take (i + 1)).map trip = (l.take i).map trip ++ [trip (l.getD i default)] := by
  rw [take_succ_D hi, List.map_append]; rfl

set_option maxHeartbeats 4000000 in
theorem s_impl_graph : PureSound Try.prog 115 RAutoG := by
  have hR : Rely Try.prog (ctxOf [(159, .pure RGraphOf), (160, .gen 2 GAdd)]) := rely_cons b_impl_graphOf.has s_impl_graphOf (rely_cons b_impl_graph_add.has s_impl_add (rely_nil mixed))
  refine pure_of_aw b_impl_Auto_graph ?_
  rintro xs r objs ⟨a, rfl, ha, rfl, rfl⟩ -
  have hs := ha.1.2.1
  have hle := length_edgeRows a.edges
  have hl := ha.2.1
  have es : a.states = ((a.states.toNat : Nat) : Int) := by omega
  refine ⟨by simp, vc2_sound hR _ _ _ _ _ ?_⟩
  conv => whnf
  repeat' ((first
    | contradiction
    | (refine And.intro (fun hb => ?_) (fun hb => ?_) <;> first | contradiction | ((try simp only [SB, reduceCtorEq] at hb); try (exfalso; first | contradiction | omega)))
    | refine And.intro rfl ?_
    | refine ⟨_, IntWalk.i64_in _ (by omega), ?_⟩
    | rw [ints_at (by omega)]
    | rw [ints_at0 (by omega)]
    | rw [ints_at' (by omega) (by omega)]
    | refine And.intro (lens_all rfl) ?_
    | refine And.intro (show _ ≤ _ ∧ (_ + 1) * _ ≤ _ ∧ _ + 1 ≤ _ by first | omega | (simp; omega)) ?_
    | refine And.intro (show 1 * _ ≤ _ ∧ 1 ≤ _ by omega) ?_
    | refine And.intro (by first | omega | (simp; omega) | (show _ ∧ _; simp; done)) ?_
    | refine ⟨_, _, ⟨a.states.toNat, congrArg (fun x => [AV.int .i64 x]) es, by omega, rfl, rfl⟩, ?_⟩
    | fail) <;> conv => whnf)
  refine Lp.intro (α := Nat) (fun i => i ≤ a.edges.length) (fun i => a.edges.length - i) (fun i => [(3, .ptr 0 0 0), (15, .val (edgeRows a.edges)), (16, .int .i64 a.edges.length), (17, .int .i64 i)]) (fun i => [some (gBox 1 a.states.toNat), some (gNst (mkG a.states.toNat ((a.edges.take i).map trip)))]) ?_ ?_
  · refine ⟨0, by omega, [some 0, some 1], rfl, rfl, And.intro (And.intro rfl trivial) (And.intro ⟨rfl, ?_⟩ trivial), ?_⟩
    · simp [mkG_nil]
    · repeat' (first
        | exact trivial
        | refine ⟨?_, ?_⟩
        | fail)
      all_goals first
        | with_reducible rfl
        | (conv => whnf
           try left
           conv => lhs; whnf
           first
             | rfl
             | exact congrArg (AV.int .i64) (by omega)
             | skip)
  · intro i hi
    refine vc2_sound hR _ _ _ _ _ ?_
    by_cases hlt : i < a.edges.length
    · have he := edge_in ha hlt
      unfold EdgeIn at he
      have hsm := mkG_small (n := a.states.toNat) (x := (a.edges.getD i default).src.toNat) (l := (a.edges.take i).map trip)
      rw [List.length_map, List.length_take] at hsm
      have hml := length_mkG a.states.toNat ((a.edges.take i).map trip)
      have hnext := gAdd_mkG (n := a.states.toNat) (f := (a.edges.getD i default).src.toNat) (t := (a.edges.getD i default).dst.toNat) (l := (a.edges.take i).map trip) (m := if (a.edges.getD i default).mark = true then 1 else 0) (by omega)
      have hnx : gAdd (mkG a.states.toNat ((a.edges.take i).map trip)) (a.edges.getD i default).src.toNat (a.edges.getD i default).dst.toNat (if (a.edges.getD i default).mark = true then 1 else 0) = mkG a.states.toNat ((a.edges.take (i + 1)).map trip) := by
        rw [hnext, trip_take hlt]; rfl
      conv => whnf
      repeat' ((first
        | contradiction
        | (refine And.intro (fun hb => ?_) (fun hb => ?_) <;> first | contradiction | ((try simp only [SB, reduceCtorEq] at hb); try (exfalso; first | contradiction | omega)))
        | refine And.intro rfl ?_
        | refine ⟨_, IntWalk.i64_in _ (by omega), ?_⟩
        | rw [ints_at (by omega)]
        | rw [ints_at0 (by omega)]
        | rw [ints_at' (by omega) (by omega)]
        | refine And.intro (lens_all rfl) ?_
        | refine And.intro (show _ ≤ _ ∧ (_ + 1) * _ ≤ _ ∧ _ + 1 ≤ _ by first | omega | (simp; omega)) ?_
        | refine And.intro (show 1 * _ ≤ _ ∧ 1 ≤ _ by omega) ?_
        | refine And.intro (by first | omega | (simp; omega) | (show _ ∧ _; simp; done)) ?_
        | rw [edge_at (by omega)]
        | refine ⟨GAdd_mk hml (by omega) (by omega) (by omega) (by omega) ?_⟩
        | fail) <;> conv => whnf)
      all_goals
        rw [hb] at hnx
        refine ⟨i + 1, by omega, by omega, [some 0, some 1], rfl, rfl, And.intro (And.intro rfl trivial) (And.intro ⟨rfl, congrArg gOwns hnx⟩ trivial), ?_⟩
        repeat' (first
          | exact trivial
          | refine ⟨?_, ?_⟩
          | fail)
        all_goals first
          | with_reducible rfl
          | (conv => whnf
             try left
             conv => lhs; whnf
             first
               | rfl
               | exact congrArg (AV.int .i64) (by omega)
               | skip)
    · conv => whnf
      repeat' ((first
        | contradiction
        | (refine And.intro (fun hb => ?_) (fun hb => ?_) <;> first | contradiction | ((try simp only [SB, reduceCtorEq] at hb); try (exfalso; first | contradiction | omega)))
        | refine And.intro rfl ?_
        | refine ⟨_, IntWalk.i64_in _ (by omega), ?_⟩
        | rw [ints_at (by omega)]
        | rw [ints_at0 (by omega)]
        | rw [ints_at' (by omega) (by omega)]
        | refine And.intro (lens_all rfl) ?_
        | refine And.intro (show _ ≤ _ ∧ (_ + 1) * _ ≤ _ ∧ _ + 1 ≤ _ by first | omega | (simp; omega)) ?_
        | refine And.intro (show 1 * _ ≤ _ ∧ 1 ≤ _ by omega) ?_
        | refine And.intro (by first | omega | (simp; omega) | (show _ ∧ _; simp; done)) ?_
        | fail) <;> conv => whnf)
      refine ⟨.inl rfl, ?_⟩
      conv => whnf
      refine ⟨[some 0, some 1], ⟨rfl, And.intro (And.intro rfl trivial) (And.intro ⟨rfl, ?_⟩ trivial)⟩, rfl, rfl, by simp [AObj.nov, gOwns_nov, AV.novs, AV.nov]⟩
      rw [List.take_of_length_le (by omega)]
      rfl

/-! ### a graph turned -/

def ways (G : GraphD) (i : Nat) : List Trip := (G.getD i []).map fun s => (s.1, i, s.2)
def allWays (G : GraphD) (i : Nat) : List Trip := (List.range i).flatMap (ways G)
def backG (G : GraphD) : GraphD := mkG G.length (allWays G G.length)
theorem allWays_succ {G : GraphD} {i : Nat} : allWays G (i + 1) = allWays G i ++ ways G i := by simp [allWays, List.range_succ]
theorem ways_take {G : GraphD} {i j : Nat} (h : j < (G.getD i []).length) : (ways G i).take (j + 1) = (ways G i).take j ++ [(((G.getD i []).getD j default).1, i, ((G.getD i []).getD j default).2)] := by
  unfold ways
  rw [← List.map_take, ← List.map_take, take_succ_D h, List.map_append]
  rfl
theorem mem_allWays {G : GraphD} {n x t : Nat} {m : Int} : (x, t, m) ∈ allWays G n ↔ t < n ∧ (x, m) ∈ G.getD t [] := by
  simp only [allWays, ways, List.mem_flatMap, List.mem_range, List.mem_map]
  constructor
  · rintro ⟨i, hi, s, hs, he⟩
    cases he
    exact ⟨hi, hs⟩
  · exact fun ⟨h1, h2⟩ => ⟨t, h1, (x, m), h2, rfl⟩
theorem adj_back {G : GraphD} (h : GOk G) {x t : Nat} : Adj (backG G) x t ↔ Adj G t x := by
  unfold backG
  rw [adj_mkG]
  simp only [mem_allWays]
  constructor
  · rintro ⟨_, m, _, hm⟩; exact ⟨m, hm⟩
  · intro ha
    obtain ⟨h1, h2⟩ := adj_lt h ha
    obtain ⟨m, hm⟩ := ha
    exact ⟨h2, m, h1, hm⟩
theorem gok_back {G : GraphD} (h : GOk G) : GOk (backG G) := gok_mkG (by
  rintro ⟨x, t, m⟩ he
  exact (mem_allWays.1 he).1)
theorem ways_len (G : GraphD) (i : Nat) : (ways G i).length = (G.getD i []).length := by simp [ways]

theorem allWays_mono {G : GraphD} {i j : Nat} (h : i ≤ j) : (allWays G i).length ≤ (allWays G j).length := by
  induction j with
  | zero => rw [show i = 0 by omega]; exact Nat.le_refl _
  | succ j ih =>
    by_cases hij : i = j + 1
    · rw [hij]; exact Nat.le_refl _
    · rw [allWays_succ, List.length_append]
      have := ih (by omega)
      omega

/-- how many steps there are -/
def steps (G : GraphD) : Nat := (allWays G G.length).length

theorem steps_le {G : GraphD} {i : Nat} (hi : i < G.length) : (G.getD i []).length ≤ steps G := by
  have := allWays_mono (G := G) (show i + 1 ≤ G.length by omega)
  rw [allWays_succ, List.length_append, ways_len] at this
  unfold steps
  omega

def RBack (xs : List AV) (r : AV) (objs : List AObj) : Prop := ∃ G, xs = [.rptr [.val (gRows G)] 0] ∧ GOk G ∧ G.length ≤ 100000 ∧ steps G ≤ 1000000000 ∧ r = .ptr 0 0 0 ∧ objs = [gBox 1 G.length, gNst (backG G)]
theorem RBack_eq {xs : List AV} {G : GraphD} (hx : xs = [.rptr [.val (gRows G)] 0]) (h : GOk G) (h1 : G.length ≤ 100000) (h2 : steps G ≤ 1000000000) : RBack xs (.ptr 0 0 0) [gBox 1 G.length, gNst (backG G)] := ⟨G, hx, h, h1, h2, rfl, rfl⟩

theorem gRows_at {G : GraphD} {i : Nat} (h : i < G.length) : (gRows G)[((i : Nat) : Int).toNat]? = some (gRow (G.getD i [])) := map_at h
theorem step_at {l : List StepD} {i : Nat} (h : i < l.length) : (stepRows l)[((i : Nat) : Int).toNat]? = some (stepRow (l.getD i default)) := map_at h
theorem getD_mem' {α : Type} [Inhabited α] {l : List α} {i : Nat} (h : i < l.length) : l.getD i default ∈ l := by
  rw [List.getD_eq_getElem?_getD, List.getElem?_eq_getElem h]
  exact List.getElem_mem h

set_option maxHeartbeats 4000000 in
theorem s_impl_back : PureSound Try.prog 162 RBack := by
  have hR : Rely Try.prog (ctxOf [(159, .pure RGraphOf), (160, .gen 2 GAdd)]) := rely_cons b_impl_graphOf.has s_impl_graphOf (rely_cons b_impl_graph_add.has s_impl_add (rely_nil mixed))
  refine pure_of_aw b_impl_graph_back ?_
  rintro xs r objs ⟨G, rfl, hG, hn, hst, rfl, rfl⟩ -
  have hle := length_gRows G
  refine ⟨by simp, vc2_sound hR _ _ _ _ _ ?_⟩
  conv => whnf
  repeat' ((first
    | contradiction
    | (refine And.intro (fun hb => ?_) (fun hb => ?_) <;> first | contradiction | ((try simp only [SB, reduceCtorEq] at hb); try (exfalso; first | contradiction | omega)))
    | refine And.intro rfl ?_
    | refine ⟨_, IntWalk.i64_in _ (by omega), ?_⟩
    | rw [ints_at (by omega)]
    | rw [ints_at0 (by omega)]
    | rw [ints_at' (by omega) (by omega)]
    | refine And.intro (lens_all rfl) ?_
    | refine And.intro (show _ ≤ _ ∧ (_ + 1) * _ ≤ _ ∧ _ + 1 ≤ _ by first | omega | (simp; omega)) ?_
    | refine And.intro (show 1 * _ ≤ _ ∧ 1 ≤ _ by omega) ?_
    | refine And.intro (by first | omega | (simp; omega) | (show _ ∧ _; simp; done)) ?_
    | rw [hle]
    | refine ⟨_, _, RGraphOf_mk hn, ?_⟩
    | fail) <;> conv => whnf)
  refine Lp.intro (α := Nat) (fun i => i ≤ G.length) (fun i => G.length - i) (fun i => [(3, .ptr 0 0 0), (17, .val (gRows G)), (18, .int .i64 G.length), (19, .int .i64 i)]) (fun i => [some (gBox 1 G.length), some (gNst (mkG G.length (allWays G i)))]) ?_ ?_
  · refine ⟨0, by omega, [some 0, some 1], rfl, rfl, And.intro (And.intro rfl trivial) (And.intro ⟨rfl, ?_⟩ trivial), ?_⟩
    · simp [mkG_nil, allWays]
    · repeat' (first
        | exact trivial
        | refine ⟨?_, ?_⟩
        | fail)
      all_goals first
        | with_reducible rfl
        | (conv => whnf
           try left
           conv => lhs; whnf
           first
             | rfl
             | exact congrArg (AV.int .i64) (by omega)
             | skip)
  · intro i hi
    refine vc2_sound hR _ _ _ _ _ ?_
    by_cases hlt : i < G.length
    · have hsl := length_stepRows (G.getD i [])
      have hsum : (allWays G i).length + (G.getD i []).length ≤ steps G := by
        have := allWays_mono (G := G) (show i + 1 ≤ G.length by omega)
        rw [allWays_succ, List.length_append, ways_len] at this
        exact this
      conv => whnf
      repeat' ((first
        | contradiction
        | (refine And.intro (fun hb => ?_) (fun hb => ?_) <;> first | contradiction | ((try simp only [SB, reduceCtorEq] at hb); try (exfalso; first | contradiction | omega)))
        | refine And.intro rfl ?_
        | refine ⟨_, IntWalk.i64_in _ (by omega), ?_⟩
        | rw [ints_at (by omega)]
        | rw [ints_at0 (by omega)]
        | rw [ints_at' (by omega) (by omega)]
        | refine And.intro (lens_all rfl) ?_
        | refine And.intro (show _ ≤ _ ∧ (_ + 1) * _ ≤ _ ∧ _ + 1 ≤ _ by first | omega | (simp; omega)) ?_
        | refine And.intro (show 1 * _ ≤ _ ∧ 1 ≤ _ by omega) ?_
        | refine And.intro (by first | omega | (simp; omega) | (show _ ∧ _; simp; done)) ?_
        | rw [gRows_at (by omega)]
        | fail) <;> conv => whnf)
      refine Lp.intro (α := Nat) (fun j => j ≤ (G.getD i []).length) (fun j => (G.getD i []).length - j) (fun j => [(3, .ptr 0 0 0), (4, .int .i64 i), (17, .val (gRows G)), (18, .int .i64 G.length), (19, .int .i64 i), (24, .val (stepRows (G.getD i []))), (25, .int .i64 (G.getD i []).length), (26, .int .i64 j)]) (fun j => [some (gBox 1 G.length), some (gNst (mkG G.length (allWays G i ++ (ways G i).take j)))]) ?_ ?_
      · refine ⟨0, by omega, [some 0, some 1], rfl, rfl, And.intro (And.intro rfl trivial) (And.intro ⟨rfl, ?_⟩ trivial), ?_⟩
        · simp
        · repeat' (first
            | exact trivial
            | refine ⟨?_, ?_⟩
            | fail)
          all_goals first
            | with_reducible rfl
            | (conv => whnf
               try left
               conv => lhs; whnf
               first
                 | rfl
                 | exact congrArg (AV.int .i64) (by omega)
                 | skip)
      · intro j hj
        refine vc2_sound hR _ _ _ _ _ ?_
        by_cases hjl : j < (G.getD i []).length
        · have hml := length_mkG G.length (allWays G i ++ (ways G i).take j)
          have hin := hG i _ (getD_mem' hjl)
          have hsm := mkG_small (n := G.length) (x := (((G.getD i []).getD j default).1 : Int).toNat) (l := allWays G i ++ (ways G i).take j)
          rw [List.length_append, List.length_take] at hsm
          have hnx : gAdd (mkG G.length (allWays G i ++ (ways G i).take j)) (((G.getD i []).getD j default).1 : Int).toNat (i : Int).toNat ((G.getD i []).getD j default).2 = mkG G.length (allWays G i ++ (ways G i).take (j + 1)) := by
            rw [Int.toNat_natCast, Int.toNat_natCast, gAdd_mkG hin, ways_take hjl, List.append_assoc]
          conv => whnf
          repeat' ((first
            | contradiction
            | (refine And.intro (fun hb => ?_) (fun hb => ?_) <;> first | contradiction | ((try simp only [SB, reduceCtorEq] at hb); try (exfalso; first | contradiction | omega)))
            | refine And.intro rfl ?_
            | refine ⟨_, IntWalk.i64_in _ (by omega), ?_⟩
            | rw [ints_at (by omega)]
            | rw [ints_at0 (by omega)]
            | rw [ints_at' (by omega) (by omega)]
            | refine And.intro (lens_all rfl) ?_
            | refine And.intro (show _ ≤ _ ∧ (_ + 1) * _ ≤ _ ∧ _ + 1 ≤ _ by first | omega | (simp; omega)) ?_
            | refine And.intro (show 1 * _ ≤ _ ∧ 1 ≤ _ by omega) ?_
            | refine And.intro (by first | omega | (simp; omega) | (show _ ∧ _; simp; done)) ?_
            | rw [step_at (by omega)]
            | refine ⟨GAdd_mk hml (by omega) (by omega) (by omega) (by omega) ?_⟩
            | fail) <;> conv => whnf)
          refine ⟨j + 1, by omega, by omega, [some 0, some 1], rfl, rfl, And.intro (And.intro rfl trivial) (And.intro ⟨rfl, congrArg gOwns hnx⟩ trivial), ?_⟩
          repeat' (first
            | exact trivial
            | refine ⟨?_, ?_⟩
            | fail)
          all_goals first
            | with_reducible rfl
            | (conv => whnf
               try left
               conv => lhs; whnf
               first
                 | rfl
                 | exact congrArg (AV.int .i64) (by omega)
                 | skip)
        · conv => whnf
          repeat' ((first
            | contradiction
            | (refine And.intro (fun hb => ?_) (fun hb => ?_) <;> first | contradiction | ((try simp only [SB, reduceCtorEq] at hb); try (exfalso; first | contradiction | omega)))
            | refine And.intro rfl ?_
            | refine ⟨_, IntWalk.i64_in _ (by omega), ?_⟩
            | rw [ints_at (by omega)]
            | rw [ints_at0 (by omega)]
            | rw [ints_at' (by omega) (by omega)]
            | refine And.intro (lens_all rfl) ?_
            | refine And.intro (show _ ≤ _ ∧ (_ + 1) * _ ≤ _ ∧ _ + 1 ≤ _ by first | omega | (simp; omega)) ?_
            | refine And.intro (show 1 * _ ≤ _ ∧ 1 ≤ _ by omega) ?_
            | refine And.intro (by first | omega | (simp; omega) | (show _ ∧ _; simp; done)) ?_
            | fail) <;> conv => whnf)
          refine ⟨i + 1, by omega, by omega, [some 0, some 1], rfl, rfl, And.intro (And.intro rfl trivial) (And.intro ⟨rfl, ?_⟩ trivial), ?_⟩
          · rw [List.take_of_length_le (by rw [ways_len]; omega), allWays_succ]
          · repeat' (first
              | exact trivial
              | refine ⟨?_, ?_⟩
              | fail)
            all_goals first
              | with_reducible rfl
              | (conv => whnf
                 try left
                 conv => lhs; whnf
                 first
                   | rfl
                   | exact congrArg (AV.int .i64) (by omega)
                   | skip)
    · conv => whnf
      repeat' ((first
        | contradiction
        | (refine And.intro (fun hb => ?_) (fun hb => ?_) <;> first | contradiction | ((try simp only [SB, reduceCtorEq] at hb); try (exfalso; first | contradiction | omega)))
        | refine And.intro rfl ?_
        | refine ⟨_, IntWalk.i64_in _ (by omega), ?_⟩
        | rw [ints_at (by omega)]
        | rw [ints_at0 (by omega)]
        | rw [ints_at' (by omega) (by omega)]
        | refine And.intro (lens_all rfl) ?_
        | refine And.intro (show _ ≤ _ ∧ (_ + 1) * _ ≤ _ ∧ _ + 1 ≤ _ by first | omega | (simp; omega)) ?_
        | refine And.intro (show 1 * _ ≤ _ ∧ 1 ≤ _ by omega) ?_
        | refine And.intro (by first | omega | (simp; omega) | (show _ ∧ _; simp; done)) ?_
        | fail) <;> conv => whnf)
      refine ⟨.inl rfl, ?_⟩
      conv => whnf
      have hil : i = G.length := by omega
      subst hil
      exact ⟨[some 0, some 1], ⟨rfl, And.intro (And.intro rfl trivial) (And.intro ⟨rfl, rfl⟩ trivial)⟩, rfl, rfl, by simp [AObj.nov, gOwns_nov, AV.novs, AV.nov]⟩

end Go.Proofs.Ytpfbkblgefddlaa.Ct
