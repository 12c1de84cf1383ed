/- The order in which a search down leaves its points: the program's. -/
import Derived.Test.YtpfbkblgefddlaaCtFar
namespace Go.Proofs.Ytpfbkblgefddlaa.Ct
set_option linter.unusedSimpArgs false
set_option linter.unusedVariables false
open Go Go.Proofs Go.Proofs.Ytpfbkblgefddlaa.Av Go.Proofs.Ytpfbkblgefddlaa.Pl

def c_impl_graph_finished : ICode := (.seq (.reg [⟨(some 2), .mv, [(.c .snil)], none⟩]) (.seq (.reg [⟨(some 3), .mv, [(.c .snil)], none⟩]) (.seq (.reg [⟨(some 9), .mv, [(.t 0)], none⟩, ⟨(some 10), .nck, [(.t 9)], none⟩, ⟨(some 11), (.fadr 0), [(.t 10)], none⟩, ⟨(some 12), .ld1, [(.t 11)], none⟩, ⟨(some 13), .len, [(.t 12)], none⟩, ⟨(some 14), (.mks 1 1 [(.bool false)]), [(.t 13), (.t 13)], none⟩, ⟨(some 4), .mv, [(.t 14)], none⟩]) (.seq (.seq (.reg [⟨(some 15), .mv, [(.t 0)], none⟩, ⟨(some 16), .nck, [(.t 15)], none⟩, ⟨(some 17), (.fadr 0), [(.t 16)], none⟩, ⟨(some 18), .ld1, [(.t 17)], none⟩, ⟨(some 19), .len, [(.t 18)], none⟩, ⟨(some 20), .mv, [(.c (.int .i64 0))], none⟩]) (.block 0 (.loop (.seq (.reg [⟨(some 21), (.bin .lss), [(.t 20), (.t 19)], none⟩]) (.seq (.cond (.t 21) .skip (.exit 0)) (.seq (.block 1 (.seq (.reg [⟨(some 22), .mv, [(.t 20)], none⟩, ⟨(some 5), .mv, [(.t 22)], none⟩]) (.seq (.seq (.reg [⟨(some 23), .mv, [(.t 4)], none⟩, ⟨(some 24), .mv, [(.t 5)], none⟩, ⟨(some 25), (.iadr 1), [(.t 23), (.t 24)], none⟩, ⟨(some 26), .ld1, [(.t 25)], none⟩]) (.cond (.t 26) (.exit 1) .skip)) (.seq (.reg [⟨(some 27), .mv, [(.t 4)], none⟩, ⟨(some 28), .mv, [(.t 5)], none⟩, ⟨(some 29), (.iadr 1), [(.t 27), (.t 28)], none⟩, ⟨none, (.st 1), [(.t 29), (.c (.bool true))], none⟩]) (.seq (.reg [⟨(some 30), .mv, [(.t 5)], none⟩, ⟨(some 31), (.bld [(.int .i64 0), (.int .i64 0)] [(0, 1)]), [(.t 30)], none⟩, ⟨(some 32), (.bsl 2), [(.t 31)], none⟩, ⟨(some 6), .mv, [(.t 32)], none⟩]) (.block 2 (.loop (.seq (.seq (.reg [⟨(some 33), .mv, [(.t 6)], none⟩, ⟨(some 34), .len, [(.t 33)], none⟩, ⟨(some 35), (.bin .gtr), [(.t 34), (.c (.int .i64 0))], none⟩]) (.cond (.t 35) .skip (.exit 2))) (.block 3 (.seq (.reg [⟨(some 36), .mv, [(.t 6)], none⟩, ⟨(some 37), .mv, [(.t 6)], none⟩, ⟨(some 38), .len, [(.t 37)], none⟩, ⟨(some 39), (.bin .sub), [(.t 38), (.c (.int .i64 1))], none⟩, ⟨(some 40), (.iadr 2), [(.t 36), (.t 39)], none⟩, ⟨(some 7), .mv, [(.t 40)], none⟩]) (.seq (.seq (.drw [⟨(some 41), .mv, [(.t 7)], none⟩, ⟨(some 42), .nck, [(.t 41)], none⟩, ⟨(some 43), (.fadr 1), [(.t 42)], none⟩, ⟨(some 44), .ld1, [(.t 43)], none⟩, ⟨(some 45), .mv, [(.t 0)], none⟩, ⟨(some 46), .nck, [(.t 45)], none⟩, ⟨(some 47), (.fadr 0), [(.t 46)], none⟩, ⟨(some 48), .ld1, [(.t 47)], none⟩, ⟨(some 49), .mv, [(.t 7)], none⟩, ⟨(some 50), .nck, [(.t 49)], none⟩, ⟨(some 51), (.fadr 0), [(.t 50)], none⟩, ⟨(some 52), .ld1, [(.t 51)], none⟩, ⟨(some 53), (.iadr 1), [(.t 48), (.t 52)], none⟩, ⟨(some 54), .ld1, [(.t 53)], none⟩, ⟨(some 55), .len, [(.t 54)], none⟩, ⟨(some 56), (.bin .eql), [(.t 44), (.t 55)], none⟩] [[], [0], [0, 1], [0, 1, 2], [], [4], [4, 5], [4, 5, 6], [], [8], [8, 9], [8, 9, 10], [4, 5, 6, 7, 8, 9, 10, 11], [4, 5, 6, 7, 8, 9, 10, 11, 12], [4, 5, 6, 7, 8, 9, 10, 11, 12, 13], [0, 1, 2, 3, 4, 5, 6, 7, 8, 9, 10, 11, 12, 13, 14]] true true) (.cond (.t 56) (.seq (.reg [⟨(some 57), .mv, [(.t 3)], none⟩, ⟨(some 58), .mv, [(.t 7)], none⟩, ⟨(some 59), .nck, [(.t 58)], none⟩, ⟨(some 60), (.fadr 0), [(.t 59)], none⟩, ⟨(some 61), .ld1, [(.t 60)], none⟩, ⟨(some 62), (.bslv 1), [(.t 61)], none⟩, ⟨(some 63), (.app 1 8), [(.t 57), (.t 62)], none⟩, ⟨(some 3), .mv, [(.t 63)], none⟩]) (.seq (.reg [⟨(some 64), .mv, [(.t 6)], none⟩, ⟨(some 65), .mv, [(.t 6)], none⟩, ⟨(some 66), .len, [(.t 65)], none⟩, ⟨(some 67), (.bin .sub), [(.t 66), (.c (.int .i64 1))], none⟩, ⟨(some 68), (.slc 2 false true), [(.t 64), (.t 67)], none⟩, ⟨(some 6), .mv, [(.t 68)], none⟩]) (.exit 3))) .skip)) (.seq (.drw [⟨(some 69), .mv, [(.t 0)], none⟩, ⟨(some 70), .nck, [(.t 69)], none⟩, ⟨(some 71), (.fadr 0), [(.t 70)], none⟩, ⟨(some 72), .ld1, [(.t 71)], none⟩, ⟨(some 73), .mv, [(.t 7)], none⟩, ⟨(some 74), .nck, [(.t 73)], none⟩, ⟨(some 75), (.fadr 0), [(.t 74)], none⟩, ⟨(some 76), .ld1, [(.t 75)], none⟩, ⟨(some 77), (.iadr 1), [(.t 72), (.t 76)], none⟩, ⟨(some 78), .ld1, [(.t 77)], none⟩, ⟨(some 79), .mv, [(.t 7)], none⟩, ⟨(some 80), .nck, [(.t 79)], none⟩, ⟨(some 81), (.fadr 1), [(.t 80)], none⟩, ⟨(some 82), .ld1, [(.t 81)], none⟩, ⟨(some 83), (.iadr 2), [(.t 78), (.t 82)], none⟩, ⟨(some 84), (.fadr 0), [(.t 83)], none⟩, ⟨(some 85), .ld1, [(.t 84)], none⟩, ⟨(some 8), .mv, [(.t 85)], none⟩] [[], [0], [0, 1], [0, 1, 2], [], [4], [4, 5], [4, 5, 6], [0, 1, 2, 3, 4, 5, 6, 7], [0, 1, 2, 3, 4, 5, 6, 7, 8], [], [10], [10, 11], [10, 11, 12], [0, 1, 2, 3, 4, 5, 6, 7, 8, 9, 10, 11, 12, 13], [0, 1, 2, 3, 4, 5, 6, 7, 8, 9, 10, 11, 12, 13, 14], [0, 1, 2, 3, 4, 5, 6, 7, 8, 9, 10, 11, 12, 13, 14, 15], [0, 1, 2, 3, 4, 5, 6, 7, 8, 9, 10, 11, 12, 13, 14, 15, 16]] true true) (.seq (.reg [⟨(some 86), .mv, [(.t 7)], none⟩, ⟨(some 87), .nck, [(.t 86)], none⟩, ⟨(some 88), (.fadr 1), [(.t 87)], none⟩, ⟨(some 89), .ld1, [(.t 88)], none⟩, ⟨(some 90), (.bin .add), [(.t 89), (.c (.int .i64 1))], none⟩, ⟨(some 91), .nck, [(.t 86)], none⟩, ⟨(some 92), (.fadr 1), [(.t 91)], none⟩, ⟨none, (.st 1), [(.t 92), (.t 90)], none⟩]) (.seq (.reg [⟨(some 93), .mv, [(.t 4)], none⟩, ⟨(some 94), .mv, [(.t 8)], none⟩, ⟨(some 95), (.iadr 1), [(.t 93), (.t 94)], none⟩, ⟨(some 96), .ld1, [(.t 95)], none⟩, ⟨(some 97), .not, [(.t 96)], none⟩]) (.cond (.t 97) (.seq (.reg [⟨(some 98), .mv, [(.t 4)], none⟩, ⟨(some 99), .mv, [(.t 8)], none⟩, ⟨(some 100), (.iadr 1), [(.t 98), (.t 99)], none⟩, ⟨none, (.st 1), [(.t 100), (.c (.bool true))], none⟩]) (.reg [⟨(some 101), .mv, [(.t 6)], none⟩, ⟨(some 102), .mv, [(.t 8)], none⟩, ⟨(some 103), (.bld [(.int .i64 0), (.int .i64 0)] [(0, 1)]), [(.t 102)], none⟩, ⟨(some 104), (.bslv 2), [(.t 103)], none⟩, ⟨(some 105), (.app 2 16), [(.t 101), (.t 104)], none⟩, ⟨(some 6), .mv, [(.t 105)], none⟩])) .skip))))))))))))))) (.reg [⟨(some 106), (.bin .add), [(.t 20), (.c (.int .i64 1))], none⟩, ⟨(some 20), .mv, [(.t 106)], none⟩]))))))) (.seq (.reg [⟨(some 107), .mv, [(.t 3)], none⟩, ⟨(some 2), .mv, [(.t 107)], none⟩]) .ret)))))
theorem b_impl_graph_finished : Body Try.prog 161 108 c_impl_graph_finished [(.t 2)] := body_mk Try.func161 (by kernel_rfl) (by decide)


def nb (G : GraphD) (p : Nat) : List Nat := (G.getD p []).map (·.1)
theorem nb_adj {G : GraphD} {p r : Nat} : Nb (nb G) p r ↔ Adj G p r := by
  simp [Nb, nb, Adj]
theorem nb_eq (G : GraphD) : Nb (nb G) = Adj G := by
  funext p r; exact propext nb_adj
theorem nb_len (G : GraphD) (p : Nat) : (nb G p).length = (G.getD p []).length := by simp [nb]
theorem nb_at {G : GraphD} {p k : Nat} (h : k < (G.getD p []).length) : (nb G p).getD k 0 = ((G.getD p []).getD k default).1 := by
  have h2 : k < (nb G p).length := by rw [nb_len]; exact h
  rw [List.getD_eq_getElem?_getD, List.getD_eq_getElem?_getD (l := G.getD p []), List.getElem?_eq_getElem h, List.getElem?_eq_getElem h2]
  simp [nb]

def bools (l : List Bool) : List (List AV) := l.map fun b => [.bool b]
@[simp] theorem length_bools (l : List Bool) : (bools l).length = l.length := by simp [bools]
theorem bools_at0 {l : List Bool} {i : Nat} (h : i < l.length) : (bools l)[0 + ((i : Nat) : Int).toNat]? = some [.bool (l.getD i false)] := by
  rw [Nat.zero_add]
  simp [bools, List.getElem?_map, List.getElem?_eq_getElem h, List.getD_eq_getElem?_getD]
theorem bools_set {l : List Bool} {i : Nat} {v : Bool} : (bools l).set (0 + ((i : Nat) : Int).toNat) [.bool v] = bools (l.set i v) := by
  simp [bools, List.map_set]

def placeRow (p : Nat × Nat) : List AV := [.int .i64 ((p.1 : Nat) : Int), .int .i64 ((p.2 : Nat) : Int)]
def placeRows (l : List (Nat × Nat)) : List (List AV) := l.map placeRow
@[simp] theorem length_placeRows (l : List (Nat × Nat)) : (placeRows l).length = l.length := by simp [placeRows]
theorem top_ix {α : Type} {x : α} {l : List α} : 0 + ((((x :: l).length : Nat) : Int) - 1).toNat = l.length := by simp
theorem top_at {x k : Nat} {l J : List (Nat × Nat)} : (placeRows (((x, k) :: l).reverse ++ J))[0 + (((((x, k) :: l).length : Nat) : Int) - 1).toNat]? = some [.int .i64 ((x : Nat) : Int), .int .i64 ((k : Nat) : Int)] := by
  rw [top_ix]
  simp [placeRows, placeRow]
theorem top_set {x : Nat × Nat} {l J : List (Nat × Nat)} {y : Nat × Nat} : (placeRows ((x :: l).reverse ++ J)).set (0 + ((((x :: l).length : Nat) : Int) - 1).toNat) (placeRow y) = placeRows ((y :: l).reverse ++ J) := by
  rw [top_ix]
  simp [placeRows]
theorem top_set1 {x k : Nat} {l J : List (Nat × Nat)} : (placeRows (((x, k) :: l).reverse ++ J)).set (0 + (((((x, k) :: l).length : Nat) : Int) - 1).toNat) [.int .i64 ((x : Nat) : Int), .int .i64 (((k : Nat) : Int) + 1)] = placeRows (((x, k + 1) :: l).reverse ++ J) :=
  top_set (y := (x, k + 1))
theorem cut_top {α : Type} {x : α} {l : List α} {m : Nat} : AV.ref m (0 + (0 : Int).toNat) (((((x :: l).length : Nat) : Int) - 1) - 0).toNat = AV.ref m 0 l.length := by simp
theorem top_app {x y : Nat × Nat} {l J : List (Nat × Nat)} : List.take (x :: l).length (placeRows ((x :: l).reverse ++ J)) ++ [placeRow y] = placeRows ((y :: x :: l).reverse ++ []) := by
  have e : (x :: l).length = (placeRows (x :: l).reverse).length := by simp
  have e2 : placeRows ((x :: l).reverse ++ J) = placeRows (x :: l).reverse ++ placeRows J := by simp [placeRows]
  rw [e, e2, List.take_left]
  simp [placeRows]

def GFin : GFun := fun xs objs Q => ∃ (G : GraphD), xs = [.rptr [.val (gRows G)] 0] ∧ objs = [] ∧ GOk G ∧ G.length ≤ 100000 ∧ steps G ≤ 1000000000 ∧ ∀ ord, Order (nb G) G.length ord → Q (.ref 0 0 ord.length) [some (.arr 1 (ints (natsI ord)))]
theorem GFin_mk {G : GraphD} {Q : AV → List (Option AObj) → Prop} (h : GOk G) (h1 : G.length ≤ 100000) (h2 : steps G ≤ 1000000000) (hq : ∀ ord, Order (nb G) G.length ord → Q (.ref 0 0 ord.length) [some (.arr 1 (ints (natsI ord)))]) :
    GFin [.rptr [.val (gRows G)] 0] [] Q := ⟨G, rfl, rfl, h, h1, h2, hq⟩

set_option maxHeartbeats 8000000 in
theorem s_impl_finished : GenSound Try.prog 161 0 GFin := by
  have hR : Rely Try.prog (ctxOf []) := rely_nil mixed
  refine gen_of_aw b_impl_graph_finished ?_
  rintro xs objs Q - ⟨G, rfl, rfl, hG, hn, hst, hq⟩ -
  have hle := length_gRows G
  have hN : ∀ p, p < G.length → ∀ r ∈ nb G p, r < G.length := fun p _ r hr => (adj_lt hG (nb_adj.1 hr)).2
  refine ⟨by simp, vc2_sound hR _ _ _ _ _ ?_⟩
  conv => whnf
  repeat' ((first
    | contradiction
    | (refine And.intro (fun hb => ?_) (fun hb => ?_) <;> first | contradiction | ((try simp only [SB, reduceCtorEq] at hb); try (exfalso; first | contradiction | omega)))
    | refine And.intro rfl ?_
    | refine ⟨_, IntWalk.i64_in _ (by omega), ?_⟩
    | rw [ints_at (by omega)]
    | rw [ints_at0 (by omega)]
    | rw [ints_at' (by omega) (by omega)]
    | refine And.intro (lens_all rfl) ?_
    | refine And.intro (show _ ≤ _ ∧ (_ + 1) * _ ≤ _ ∧ _ + 1 ≤ _ by first | omega | (simp; omega)) ?_
    | refine And.intro (show 1 * _ ≤ _ ∧ 1 ≤ _ by omega) ?_
    | refine And.intro (by first | omega | (simp; omega) | (show _ ∧ _; simp; done)) ?_
    | rw [hle]
    | fail) <;> conv => whnf)
  refine Lp.intro (α := List Nat × List Bool × Nat) (fun a => Dfs (nb G) G.length a.1 a.2.1 [] ∧ a.2.2 ≤ G.length ∧ ∀ j, j < a.2.2 → a.2.1.getD j false = true) (fun a => G.length - a.2.2)
    (fun a => [(0, .rptr [.val (gRows G)] 0), (3, .ref 1 0 a.1.length), (4, .ref 0 0 G.length), (18, .val (gRows G)), (19, .int .i64 G.length), (20, .int .i64 a.2.2)]) (fun a => [some (.arr 1 (bools a.2.1)), some (.arr 1 (ints (natsI a.1)))]) ?_ ?_
  · refine ⟨([], List.replicate G.length false, 0), ⟨dfs_start _ _, Nat.zero_le _, fun j hj => absurd hj (Nat.not_lt_zero _)⟩, [some 0, none], rfl, rfl, And.intro (And.intro rfl ?_) (And.intro rfl trivial), ?_⟩
    · simp [bools]
    · exact ⟨.inl rfl, ⟨rfl, rfl, rfl⟩, rfl, .inl rfl, .inl rfl, .inl rfl, trivial⟩
  rintro ⟨ord, seen, i⟩ ⟨hD, hi, hall⟩
  dsimp only at hD hi hall ⊢
  have hsl := hD.len
  have hbl := length_bools seen
  refine vc2_sound hR _ _ _ _ _ ?_
  by_cases hlt : i < G.length
  · conv => whnf
    repeat' ((first
      | contradiction
      | (refine And.intro (fun hb => ?_) (fun hb => ?_) <;> first | contradiction | ((try simp only [SB, reduceCtorEq] at hb); try (exfalso; first | contradiction | omega)))
      | refine And.intro rfl ?_
      | refine ⟨_, IntWalk.i64_in _ (by omega), ?_⟩
      | rw [ints_at (by omega)]
      | rw [ints_at0 (by omega)]
      | rw [ints_at' (by omega) (by omega)]
      | refine And.intro (lens_all rfl) ?_
      | refine And.intro (show _ ≤ _ ∧ (_ + 1) * _ ≤ _ ∧ _ + 1 ≤ _ by first | omega | (simp; omega)) ?_
      | refine And.intro (show 1 * _ ≤ _ ∧ 1 ≤ _ by omega) ?_
      | refine And.intro (by first | omega | (simp; omega) | (show _ ∧ _; simp; done)) ?_
      | rw [bools_at0 (by omega)]
      | fail) <;> conv => whnf)
    · refine ⟨(ord, seen, i + 1), ⟨hD, hlt, fun j hj => ?_⟩, by dsimp only; omega, [some 0, some 1], rfl, rfl, And.intro (And.intro rfl rfl) (And.intro (And.intro rfl rfl) trivial), ?_⟩
      · by_cases hji : j = i
        · subst hji; exact hb
        · exact hall j (by dsimp only at hj; omega)
      · exact ⟨.inl rfl, rfl, rfl, .inl rfl, .inl rfl, .inl rfl, trivial⟩
    have hpush := hD.push hlt hb (by simp)
    have hset : ∀ j, (seen.set i true).getD j false = true ↔ i = j ∨ seen.getD j false = true := fun j => by
      rw [getD_setB]
      by_cases hij : i = j
      · rw [if_pos ⟨hij, by omega⟩]; simp [hij]
      · rw [if_neg (fun hh => hij hh.1)]; simp [hij]
    refine Lp.intro (α := List Nat × List Bool × List (Nat × Nat) × List (Nat × Nat)) (fun a => Dfs (nb G) G.length a.1 a.2.1 a.2.2.1 ∧ ∀ j, j < i + 1 → a.2.1.getD j false = true) (fun a => us (nb G) a.2.1 0 + ds (nb G) a.2.2.1)
      (fun a => [(0, .rptr [.val (gRows G)] 0), (3, .ref 1 0 a.1.length), (4, .ref 0 0 G.length), (6, .ref 2 0 a.2.2.1.length), (18, .val (gRows G)), (19, .int .i64 G.length), (20, .int .i64 i)]) (fun a => [some (.arr 1 (bools a.2.1)), some (.arr 1 (ints (natsI a.1))), some (.arr 2 (placeRows (a.2.2.1.reverse ++ a.2.2.2)))]) ?_ ?_
    · refine ⟨(ord, seen.set i true, [(i, 0)], []), ⟨hpush, fun j hj => (hset j).2 ?_⟩, [some 0, some 1, some 2], rfl, rfl, And.intro (And.intro rfl bools_set) (And.intro (And.intro rfl rfl) (And.intro (And.intro rfl rfl) trivial)), ?_⟩
      · by_cases hji : i = j
        · exact .inl hji
        · exact .inr (hall j (by omega))
      · exact ⟨.inl rfl, rfl, rfl, rfl, .inl rfl, .inl rfl, .inl rfl, trivial⟩
    clear hpush hset hb hD hall hsl hbl ord seen
    rintro ⟨ord, seen, st, J⟩ ⟨hD, hall⟩
    dsimp only at hD hall ⊢
    have hsl := hD.len
    have hbl := length_bools seen
    have hlen := hD.length_le
    have hol := (length_ints (natsI ord)).trans (length_natsI ord)
    refine vc2_sound hR _ _ _ _ _ ?_
    match st, hD, hlen with
    | [], hD, hlen =>
      conv => whnf
      repeat' ((first
        | contradiction
        | (refine And.intro (fun hb => ?_) (fun hb => ?_) <;> first | contradiction | ((try simp only [SB, reduceCtorEq] at hb); try (exfalso; first | contradiction | omega)))
        | refine And.intro rfl ?_
        | refine ⟨_, IntWalk.i64_in _ (by omega), ?_⟩
        | rw [ints_at (by omega)]
        | rw [ints_at0 (by omega)]
        | rw [ints_at' (by omega) (by omega)]
        | refine And.intro (lens_all rfl) ?_
        | refine And.intro (show _ ≤ _ ∧ (_ + 1) * _ ≤ _ ∧ _ + 1 ≤ _ by first | omega | (simp; omega)) ?_
        | refine And.intro (show 1 * _ ≤ _ ∧ 1 ≤ _ by omega) ?_
        | refine And.intro (by first | omega | (simp; omega) | (show _ ∧ _; simp; done)) ?_
        | fail) <;> conv => whnf)
      refine ⟨(ord, seen, i + 1), ⟨hD, hlt, hall⟩, by dsimp only; omega, [some 0, some 1], rfl, rfl, And.intro (And.intro rfl rfl) (And.intro (And.intro rfl rfl) trivial), ?_⟩
      exact ⟨.inl rfl, rfl, rfl, .inl rfl, .inl rfl, .inl rfl, trivial⟩
    | (x, k) :: rest, hD, hlen =>
      have hxn : x < G.length := hD.lt x (by simp)
      have hk := (hD.gone (x, k) (by simp)).1
      have hnl := nb_len G x
      rw [nb_len] at hk
      dsimp only at hk
      have hLb := steps_le hxn
      have hrl := length_stepRows (G.getD x [])
      have hpl : (placeRows (((x, k) :: rest).reverse ++ J)).length = rest.length + 1 + J.length := by simp; omega
      have hcl : ((x, k) :: rest).length = rest.length + 1 := rfl
      by_cases hkd : k = (G.getD x []).length
      · conv => whnf
        repeat' ((first
          | contradiction
          | (refine And.intro (fun hb => ?_) (fun hb => ?_) <;> first | contradiction | ((try simp only [SB, reduceCtorEq] at hb); try (exfalso; first | contradiction | omega)))
          | refine And.intro rfl ?_
          | refine ⟨_, IntWalk.i64_in _ (by omega), ?_⟩
          | rw [ints_at (by omega)]
          | rw [ints_at0 (by omega)]
          | rw [ints_at' (by omega) (by omega)]
          | refine And.intro (lens_all rfl) ?_
          | refine And.intro (show _ ≤ _ ∧ (_ + 1) * _ ≤ _ ∧ _ + 1 ≤ _ by first | omega | (simp; omega)) ?_
          | refine And.intro (show 1 * _ ≤ _ ∧ 1 ≤ _ by omega) ?_
          | refine And.intro (by first | omega | (simp; omega) | (show _ ∧ _; simp; done)) ?_
          | rw [top_at]
          | rw [gRows_at (by omega)]
          | fail) <;> conv => whnf)
        · refine ⟨(ord ++ [x], seen, rest, (x, k) :: J), ⟨hD.pop hN (by omega), hall⟩, by simp only [ds]; omega, [some 0, some 3, some 2], rfl, rfl, And.intro (And.intro rfl rfl) (And.intro (And.intro rfl (natsI_app rfl)) (And.intro (And.intro rfl ?_) trivial)), ?_⟩
          · simp
          · exact ⟨.inl rfl, congrArg (AV.ref 3 0) (by simp), rfl, cut_top, .inl rfl, .inl rfl, .inl rfl, trivial⟩
      · have hto : ((G.getD x []).getD k default).1 < G.length := hG x _ (getD_mem' (by omega))
        have hna := nb_at (G := G) (p := x) (k := k) (by omega)
        conv => whnf
        repeat' ((first
          | contradiction
          | (refine And.intro (fun hb => ?_) (fun hb => ?_) <;> first | contradiction | ((try simp only [SB, reduceCtorEq] at hb); try (exfalso; first | contradiction | omega)))
          | refine And.intro rfl ?_
          | refine ⟨_, IntWalk.i64_in _ (by omega), ?_⟩
          | rw [ints_at (by omega)]
          | rw [ints_at0 (by omega)]
          | rw [ints_at' (by omega) (by omega)]
          | refine And.intro (lens_all rfl) ?_
          | refine And.intro (show _ ≤ _ ∧ (_ + 1) * _ ≤ _ ∧ _ + 1 ≤ _ by first | omega | (simp; omega)) ?_
          | refine And.intro (show 1 * _ ≤ _ ∧ 1 ≤ _ by omega) ?_
          | refine And.intro (by first | omega | (simp; omega) | (show _ ∧ _; simp; done)) ?_
          | rw [top_at]
          | rw [gRows_at (by omega)]
          | rw [step_at (by omega)]
          | rw [bools_at0 (by omega)]
          | fail) <;> conv => whnf)
        · refine ⟨(ord, seen, (x, k + 1) :: rest, J), ⟨hD.pass (by omega) (by rw [hna]; exact hb), hall⟩, by simp only [ds]; omega, [some 0, some 1, some 2], rfl, rfl, And.intro (And.intro rfl rfl) (And.intro (And.intro rfl rfl) (And.intro (And.intro rfl top_set1) trivial)), ?_⟩
          exact ⟨.inl rfl, rfl, rfl, rfl, .inl rfl, .inl rfl, .inl rfl, trivial⟩
        · have hus := us_set (nb G) seen 0 _ (by omega) hb
          rw [Nat.zero_add, nb_len] at hus
          refine ⟨(ord, seen.set ((G.getD x []).getD k default).1 true, (((G.getD x []).getD k default).1, 0) :: (x, k + 1) :: rest, []), ⟨hD.down (by omega) hna hto hb, fun j hj => ?_⟩, ?_, [some 0, some 1, some 3], rfl, rfl, And.intro (And.intro rfl bools_set) (And.intro (And.intro rfl rfl) (And.intro (And.intro rfl ?_) trivial)), ?_⟩
          · rw [getD_setB]
            split
            · rfl
            · exact hall j hj
          · simp only [ds, nb_len]; omega
          · rw [top_set1]
            exact top_app (x := (x, k + 1)) (y := (((G.getD x []).getD k default).1, 0))
          · exact ⟨.inl rfl, rfl, rfl, congrArg (AV.ref 3 0) (by simp), .inl rfl, .inl rfl, .inl rfl, trivial⟩
  · conv => whnf
    repeat' ((first
      | contradiction
      | (refine And.intro (fun hb => ?_) (fun hb => ?_) <;> first | contradiction | ((try simp only [SB, reduceCtorEq] at hb); try (exfalso; first | contradiction | omega)))
      | refine And.intro rfl ?_
      | refine ⟨_, IntWalk.i64_in _ (by omega), ?_⟩
      | rw [ints_at (by omega)]
      | rw [ints_at0 (by omega)]
      | rw [ints_at' (by omega) (by omega)]
      | refine And.intro (lens_all rfl) ?_
      | refine And.intro (show _ ≤ _ ∧ (_ + 1) * _ ≤ _ ∧ _ + 1 ≤ _ by first | omega | (simp; omega)) ?_
      | refine And.intro (show 1 * _ ≤ _ ∧ 1 ≤ _ by omega) ?_
      | refine And.intro (by first | omega | (simp; omega) | (show _ ∧ _; simp; done)) ?_
      | fail) <;> conv => whnf)
    refine ⟨.inl rfl, ?_⟩
    conv => whnf
    refine ⟨[some 1], .ref 0 0 ord.length, [some (.arr 1 (ints (natsI ord)))], ⟨rfl, And.intro (And.intro rfl rfl) trivial⟩, rfl, rfl, hq ord (hD.order fun p hp => hall p (by omega))⟩

end Go.Proofs.Ytpfbkblgefddlaa.Ct
