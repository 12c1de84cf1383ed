/- Part 7 of the proof of FnDegenSaid: CtTakes to CtDegen. Conditions: none. -/
import Derived.Test.YthanhknkoikbfaaT6
import Derived.Test.YthanhknkoikbfaaT5
import Derived.Test.YthanhknkoikbfaaT4
import Derived.Test.YthanhknkoikbfaaT1
import Derived.Test.YthanhknkoikbfaaT3
import Derived.Shelf.SlSortCmp.NoneTotal
import Derived.Test.YthanhknkoikbfaaProg
import Derived.KernelRfl
set_option linter.unusedSimpArgs false
set_option linter.unusedVariables false
namespace Go.Proofs.Ythanhknkoikbfaa.Ct
open Go Go.Proofs Go.Proofs.Ythanhknkoikbfaa.Av Go.Proofs.Ythanhknkoikbfaa.Pl
def c_spec_GenTakes : ICode := (.seq (.reg [O1 2 (.box 5) 0, O1 3 (.box 2) 1, Ol 4 .mv [cb false]]) (.seq (.seq (.reg [O1 13 (.ldn 5) 2, O1 14 (.call 69) 13, O1 15 .not 14, O1 16 .mv 15, Og 17 (.ldn 2) [.t 3] 16 false, Og 18 (.fadr 0) [.t 2] 16 false, Og 19 .ld1 [.t 18] 16 false, Og 20 (.call 47) [.t 17, .t 19] 16 false, Og 21 .not [.t 20] 16 false, Ol 22 .pick [.t 16, cb true, .t 21], O1 23 .mv 22, Og 24 (.fadr 1) [.t 2] 23 false, Og 25 .ld1 [.t 24] 23 false, Og 26 (.bin .eql) [.t 25, ci 0] 23 false, Ol 27 .pick [.t 23, cb true, .t 26]]) (.cond (.t 27) (.seq (.reg [Ol 4 .mv [cb false]]) .ret) .skip)) (.seq (.reg [O1 28 (.ldn 5) 2, O1 29 (.ldn 2) 3, O2 30 (.call 99) 28 29, O1 5 .mv 30]) (.seq (.reg [O1 31 .mv 5, O1 32 .len 31, O2 33 (.mks 1 8 [(.int .i64 0)]) 32 32, O1 6 .mv 33]) (.seq (.reg [O1 34 .mv 5, O1 35 .len 34, O2 36 (.mks 1 1 [(.bool false)]) 35 35, O1 7 .mv 36]) (.seq (.seq (.reg [Ol 8 .mv [ci 0]]) (.block 0 (.loop (.seq (.seq (.reg [O1 37 .mv 8, O1 38 (.ldn 2) 3, O1 39 (.call 91) 38, O2 40 (.bin .lss) 37 39]) (.cond (.t 40) .skip (.exit 0))) (.seq (.block 1 (.seq (.reg [Ol 9 .mv [ci 0]]) (.block 2 (.loop (.seq (.seq (.reg [O1 43 .mv 9, O1 44 (.fadr 4) 2, O1 45 .ld1 44, O1 46 .len 45, O2 47 (.bin .lss) 43 46]) (.cond (.t 47) .skip (.exit 2))) (.seq (.block 3 (.seq (.reg [O1 50 (.fadr 4) 2, O1 51 .ld1 50, O1 52 .mv 9, O2 53 (.iadr 4) 51 52, O1 54 (.ldn 4) 53, O0 10 (.alc [(.int .i64 0), (.int .i64 0), (.int .i64 0), (.int .i64 0)]), S2 (.st 4) 10 54]) (.seq (.reg [O1 55 .mv 8, O1 56 (.fadr 1) 2, O1 57 .ld1 56, O2 58 (.bin .mul) 55 57, O1 59 (.fadr 0) 10, O1 60 .ld1 59, O2 61 (.bin .add) 58 60, O1 11 .mv 61]) (.seq (.drw [O1 62 (.fadr 1) 10, O1 63 .ld1 62, O1 64 (.ldn 2) 3, O1 65 .mv 8, O2 66 (.call 93) 64 65, O2 67 (.bin .eql) 63 66, O1 68 .mv 67, Og 69 .mv [.t 5] 68 true, Og 70 .mv [.t 11] 68 true, Og 71 (.iadr 1) [.t 69, .t 70] 68 true, Og 72 .ld1 [.t 71] 68 true, Og 73 (.bin .geq) [.t 72, ci 0] 68 true, Ol 74 .pick [.t 68, .t 73, cb false], O1 75 .mv 74, Og 76 .mv [.t 5] 75 true, Og 77 .mv [.t 11] 75 true, Og 78 (.iadr 1) [.t 76, .t 77] 75 true, Og 79 .ld1 [.t 78] 75 true, Og 80 .mv [.t 5] 75 true, Og 81 (.ldn 2) [.t 3] 75 true, Og 82 .mv [.t 8] 75 true, Og 83 (.call 92) [.t 81, .t 82] 75 true, Og 84 (.fadr 1) [.t 2] 75 true, Og 85 .ld1 [.t 84] 75 true, Og 86 (.bin .mul) [.t 83, .t 85] 75 true, Og 87 (.fadr 2) [.t 10] 75 true, Og 88 .ld1 [.t 87] 75 true, Og 89 (.bin .add) [.t 86, .t 88] 75 true, Og 90 (.iadr 1) [.t 80, .t 89] 75 true, Og 91 .ld1 [.t 90] 75 true, Og 92 (.bin .eql) [.t 79, .t 91] 75 true, Ol 93 .pick [.t 75, .t 92, cb false]] (unB [0, 1, 0, 0, 12, 31, 63, 127, 127, 511, 1023, 2047, 4095, 8191, 16383, 16383, 65535, 131071, 16383, 16383, 16383, 1589247, 16383, 4210687, 16269311, 16383, 33570815, 133709823, 268189695, 536625151, 1073741823, 2147483647] 0) true true) (.cond (.t 93) (.seq (.reg [O1 94 .mv 7, O1 95 .mv 5, O1 96 .mv 11, O2 97 (.iadr 1) 95 96, O1 98 .ld1 97, O2 99 (.iadr 1) 94 98, Sl (.st 1) [.t 99, cb true]]) (.drw [O1 100 .mv 6, O1 101 .mv 5, O1 102 .mv 11, O2 103 (.iadr 1) 101 102, O1 104 .ld1 103, O1 105 .mv 6, O1 106 .mv 5, O1 107 .mv 11, O2 108 (.iadr 1) 106 107, O1 109 .ld1 108, O2 110 (.iadr 1) 105 109, O1 111 .ld1 110, O1 112 (.fadr 3) 10, O1 113 .ld1 112, O2 114 (.bin .or) 111 113, O2 115 (.iadr 1) 100 104, S2 (.st 1) 115 114] (unB [0, 0, 0, 6, 14, 0, 0, 0, 192, 448, 992, 2016, 0, 4096, 16352, 32767, 65535] 0) true true)) .skip))))) (.reg [O1 48 .mv 9, Ol 49 (.bin .add) [.t 48, ci 1], O1 9 .mv 49]))))))) (.reg [O1 41 .mv 8, Ol 42 (.bin .add) [.t 41, ci 1], O1 8 .mv 42])))))) (.seq (.seq (.reg [Ol 12 .mv [ci 0]]) (.block 4 (.loop (.seq (.seq (.reg [O1 116 .mv 12, O1 117 .mv 6, O1 118 .len 117, O2 119 (.bin .lss) 116 118]) (.cond (.t 119) .skip (.exit 4))) (.seq (.block 5 (.seq (.drw [O1 122 .mv 7, O1 123 .mv 12, O2 124 (.iadr 1) 122 123, O1 125 .ld1 124, O1 126 .mv 125, Og 127 .mv [.t 6] 126 true, Og 128 .mv [.t 12] 126 true, Og 129 (.iadr 1) [.t 127, .t 128] 126 true, Og 130 .ld1 [.t 129] 126 true, Og 131 (.fadr 3) [.t 2] 126 true, Og 132 .ld1 [.t 131] 126 true, Og 133 (.bin .shl) [ci 1, .t 132] 126 true, Og 134 (.bin .sub) [.t 133, ci 1] 126 true, Og 135 (.bin .eql) [.t 130, .t 134] 126 true, Ol 136 .pick [.t 126, .t 135, cb false]] (unB [0, 0, 3, 7, 15, 31, 31, 127, 255, 31, 543, 1567, 3615, 8191, 16383] 0) true true) (.cond (.t 136) (.seq (.reg [Ol 4 .mv [cb true]]) .ret) .skip))) (.reg [O1 120 .mv 12, Ol 121 (.bin .add) [.t 120, ci 1], O1 12 .mv 121])))))) (.seq (.reg [Ol 4 .mv [cb false]]) .ret))))))))
theorem b_spec_GenTakes : Body Try.prog 68 137 c_spec_GenTakes [(.t 4)] := body_mk Try.func68 (by kernel_rfl) (by decide)
def TakesG (g : GenD) (s l : List Int) : Prop := GenOk g ∧ wordOk s l g.letters = true ∧ Lives (ptsG g.states.toNat s l g.edges) (bitL g.start.toNat 31) (2 ^ g.sets.toNat - 1)
def InS (g : GenD) (s l : List Int) (C : List Int) (r : Int) (q i : Nat) : Prop := q < s.length + l.length ∧ i < g.edges.length ∧ (g.edges.getD i default).letter = letN s l q ∧ 0 ≤ r ∧
  C.getD (q * g.states.toNat + (g.edges.getD i default).src.toNat) 0 = r ∧ C.getD (nextN s l q * g.states.toNat + (g.edges.getD i default).dst.toNat) 0 = r
structure TkI (g : GenD) (s l : List Int) (C : List Int) (p j : Nat) (S : List Bool) (M : List Int) : Prop where
  ls : S.length = C.length
  lm : M.length = C.length
  pos : ∀ r, 0 ≤ M.getD r 0 ∧ M.getD r 0 < 2 ^ 31
  sm : ∀ r : Nat, r < C.length → (S.getD r false = true ↔ ∃ q i, Bef p j q i ∧ InS g s l C r q i)
  mb : ∀ r : Nat, r < C.length → ∀ b, (M.getD r 0).toNat.testBit b = true ↔ ∃ q i, Bef p j q i ∧ InS g s l C r q i ∧ (g.edges.getD i default).marks.toNat.testBit b = true
section
variable {g : GenD} {s l : List Int} {C : List Int} {p j : Nat} {S : List Bool} {M : List Int}
theorem bef_zero {q i : Nat} : ¬ Bef 0 0 q i := by unfold Bef; omega
theorem tk_start : TkI g s l C 0 0 (List.replicate C.length false) (List.replicate C.length 0) := by
  have e : ∀ r, (List.replicate C.length (0 : Int)).getD r 0 = 0 := fun r => by
    rw [List.getD_eq_getElem?_getD, List.getElem?_replicate]; split <;> rfl
  have e2 : ∀ r, (List.replicate C.length false).getD r false = false := fun r => by
    rw [List.getD_eq_getElem?_getD, List.getElem?_replicate]; split <;> rfl
  refine ⟨by simp, by simp, fun r => by rw [e]; decide, fun r _ => ?_, fun r _ b => ?_⟩
  · rw [e2]
    exact ⟨fun h => (by cases h), fun ⟨q, i, h, _⟩ => absurd h bef_zero⟩
  · rw [e]
    exact ⟨fun h => (by simp at h), fun ⟨q, i, h, _⟩ => absurd h bef_zero⟩
theorem TkI.next (h : TkI g s l C p j S M) (hj : g.edges.length ≤ j) : TkI g s l C (p + 1) 0 S M := by
  have key : ∀ q i r, InS g s l C r q i → (Bef p j q i ↔ Bef (p + 1) 0 q i) := by
    rintro q i r ⟨_, h2, _⟩
    unfold Bef
    by_cases hq : q = p
    · subst hq; constructor <;> intro <;> omega
    · constructor <;> intro <;> omega
  refine ⟨h.ls, h.lm, h.pos, fun r hr => (h.sm r hr).trans ?_, fun r hr b => (h.mb r hr b).trans ?_⟩
  · exact ⟨fun ⟨q, i, h1, h2⟩ => ⟨q, i, (key q i r h2).1 h1, h2⟩, fun ⟨q, i, h1, h2⟩ => ⟨q, i, (key q i r h2).2 h1, h2⟩⟩
  · exact ⟨fun ⟨q, i, h1, h2, h3⟩ => ⟨q, i, (key q i r h2).1 h1, h2, h3⟩, fun ⟨q, i, h1, h2, h3⟩ => ⟨q, i, (key q i r h2).2 h1, h2, h3⟩⟩
theorem TkI.skip (h : TkI g s l C p j S M) (hn : ∀ r, ¬ InS g s l C r p j) : TkI g s l C p (j + 1) S M := by
  refine ⟨h.ls, h.lm, h.pos, fun r hr => (h.sm r hr).trans ?_, fun r hr b => (h.mb r hr b).trans ?_⟩
  · refine ⟨fun ⟨q, i, h1, h2⟩ => ⟨q, i, bef_succ.2 (.inl h1), h2⟩, fun ⟨q, i, h1, h2⟩ => ⟨q, i, ?_, h2⟩⟩
    rcases bef_succ.1 h1 with h1 | ⟨rfl, rfl⟩
    · exact h1
    · exact absurd h2 (hn r)
  · refine ⟨fun ⟨q, i, h1, h2⟩ => ⟨q, i, bef_succ.2 (.inl h1), h2⟩, fun ⟨q, i, h1, h2, h3⟩ => ⟨q, i, ?_, h2, h3⟩⟩
    rcases bef_succ.1 h1 with h1 | ⟨rfl, rfl⟩
    · exact h1
    · exact absurd h2 (hn r)
theorem TkI.put (h : TkI g s l C p j S M) {z : Nat} (hz : z < C.length) (hin : InS g s l C z p j) {m : Nat} (hm : (g.edges.getD j default).marks.toNat = m) (hml : m < 2 ^ 31) :
    TkI g s l C p (j + 1) (S.set z true) (M.set z (((M.getD z 0).toNat ||| m : Nat) : Int)) := by
  have hp := h.pos z
  have hlt : (M.getD z 0).toNat ||| m < 2 ^ 31 := Nat.or_lt_two_pow (by omega) hml
  have hr : ∀ r : Int, InS g s l C r p j → r = z := fun r ⟨_, _, _, _, h1, _⟩ => by rw [← h1]; exact hin.2.2.2.2.1
  have hls := h.ls
  have hlm := h.lm
  have e1 : ∀ r, (S.set z true).getD r false = if z = r then true else S.getD r false := fun r => by
    rw [getD_setB]
    by_cases h1 : z = r
    · subst h1; rw [if_pos ⟨rfl, by omega⟩, if_pos rfl]
    · rw [if_neg (fun h => h1 h.1), if_neg h1]
  have e2 : ∀ r, (M.set z (((M.getD z 0).toNat ||| m : Nat) : Int)).getD r 0 = if z = r then (((M.getD z 0).toNat ||| m : Nat) : Int) else M.getD r 0 := fun r => by
    rw [Pl.getD_set]
    by_cases h1 : z = r
    · subst h1; rw [if_pos ⟨rfl, by omega⟩, if_pos rfl]
    · rw [if_neg (fun h => h1 h.1), if_neg h1]
  refine ⟨by simpa using hls, by simpa using hlm, fun r => ?_, fun r hrl => ?_, fun r hrl b => ?_⟩
  · rw [e2]; split
    · omega
    · exact h.pos r
  · rw [e1]
    by_cases hzr : z = r
    · subst hzr
      rw [if_pos rfl]
      exact ⟨fun _ => ⟨p, j, bef_succ.2 (.inr ⟨rfl, rfl⟩), hin⟩, fun _ => rfl⟩
    · rw [if_neg hzr, h.sm r hrl]
      refine ⟨fun ⟨q, i, h1, h2⟩ => ⟨q, i, bef_succ.2 (.inl h1), h2⟩, fun ⟨q, i, h1, h2⟩ => ⟨q, i, ?_, h2⟩⟩
      rcases bef_succ.1 h1 with h1 | ⟨rfl, rfl⟩
      · exact h1
      · have := hr _ h2; omega
  · rw [e2]
    by_cases hzr : z = r
    · subst hzr
      rw [if_pos rfl, Int.toNat_natCast, Nat.testBit_or, Bool.or_eq_true, h.mb z hrl]
      constructor
      · rintro (⟨q, i, h1, h2⟩ | h1)
        · exact ⟨q, i, bef_succ.2 (.inl h1), h2⟩
        · exact ⟨p, j, bef_succ.2 (.inr ⟨rfl, rfl⟩), hin, by rw [hm]; exact h1⟩
      · rintro ⟨q, i, h1, h2, h3⟩
        rcases bef_succ.1 h1 with h1 | ⟨rfl, rfl⟩
        · exact .inl ⟨q, i, h1, h2, h3⟩
        · exact .inr (by rw [← hm]; exact h3)
    · rw [if_neg hzr, h.mb r hrl]
      refine ⟨fun ⟨q, i, h1, h2⟩ => ⟨q, i, bef_succ.2 (.inl h1), h2⟩, fun ⟨q, i, h1, h2, h3⟩ => ⟨q, i, ?_, h2, h3⟩⟩
      rcases bef_succ.1 h1 with h1 | ⟨rfl, rfl⟩
      · exact h1
      · have := hr _ h2; omega
end
theorem length_ptsG {n : Nat} {s l : List Int} {es : List GEdgeD} : (ptsG n s l es).length = (s.length + l.length) * n := by simp [ptsG, mkG]
theorem gstart_lt {g : GenD} (hg : GenOk g) : g.start.toNat < 2 ^ g.states.toNat := by
  have hh := hg.1.2.2
  rw [show g.start = ((g.start.toNat : Nat) : Int) by omega] at hh
  exact Int.ofNat_lt.1 (by rw [Int.natCast_pow]; exact hh.2.2)
theorem beg_rch {g : GenD} (hg : GenOk g) {s l : List Int} (hl0 : 0 < l.length) {x : Nat} : Beg g s l x ↔ Rch (PA g s l) (· ∈ bitL g.start.toNat 31) x := by
  rw [beg_iff hg hl0]
  have e : (fun x => x < (s.length + l.length) * g.states.toNat ∧ AtS g (oneS (s.length + l.length) 0 g.start.toNat) x) = (· ∈ bitL g.start.toNat 31) := by
    funext x
    refine propext ?_
    have hs := gstart_lt hg
    have hst := hg.1.2.1
    unfold AtS
    rw [oneS_at, mem_bitL]
    constructor
    · rintro ⟨h1, h2⟩
      split at h2
      · rename_i hq
        have hb := bit_lt hs h2
        have := pt_eq (n := g.states.toNat) (x := x)
        rw [hq.1, Nat.zero_mul, Nat.zero_add] at this
        rw [this] at h2 hb
        exact ⟨by omega, h2⟩
      · simp at h2
    · rintro ⟨h1, h2⟩
      have hb := bit_lt hs h2
      have h3 : x / g.states.toNat = 0 := Nat.div_eq_of_lt hb
      have h4 : x % g.states.toNat = x := Nat.mod_eq_of_lt hb
      rw [if_pos ⟨h3, by omega⟩, h4]
      refine ⟨Nat.lt_of_lt_of_le hb ?_, h2⟩
      have := Nat.mul_le_mul_right g.states.toNat (show 1 ≤ s.length + l.length by omega)
      omega
  rw [e]
theorem edge_ix {g : GenD} {e : GEdgeD} (he : e ∈ g.edges) : ∃ i, i < g.edges.length ∧ g.edges.getD i default = e := by
  obtain ⟨i, hi, rfl⟩ := List.getElem_of_mem he
  exact ⟨i, hi, by rw [List.getD_eq_getElem?_getD, List.getElem?_eq_getElem hi]; rfl⟩
theorem pow_toNat {m k : Int} (h0 : 0 ≤ m) (h : m < 2 ^ k.toNat) : m.toNat < 2 ^ k.toNat := by
  rw [show m = ((m.toNat : Nat) : Int) by omega] at h
  exact Int.ofNat_lt.1 (by rw [Int.natCast_pow]; exact h)
theorem takes_of {g : GenD} (hg : GenOk g) {s l : List Int} (hl0 : 0 < l.length) {C : List Int} (hC : IsComps (PA g s l) (Beg g s l) ((s.length + l.length) * g.states.toNat) C) {S : List Bool} {M : List Int} (h : TkI g s l C (s.length + l.length) 0 S M) :
    (∃ r, r < C.length ∧ S.getD r false = true ∧ M.getD r 0 = 2 ^ g.sets.toNat - 1) ↔ Lives (ptsG g.states.toNat s l g.edges) (bitL g.start.toNat 31) (2 ^ g.sets.toNat - 1) := by
  have hBm := fun p q (h : Beg g s l p) (hm : Mut (PA g s l) p q) => beg_mut hg hl0 p q h hm.1
  have hgin : ∀ i, i < g.edges.length → GIn g (g.edges.getD i default) := fun i hi => gin hg hi
  have hCl := hC.1
  have hps : ∀ r, 0 ≤ M.getD r 0 := fun r => (h.pos r).1
  have hst := hg.1.2.1
  have hpow : ((2 ^ g.sets.toNat - 1 : Nat) : Int) = 2 ^ g.sets.toNat - 1 := by
    have := Nat.two_pow_pos g.sets.toNat
    rw [Int.natCast_sub (by omega), Int.natCast_pow]; rfl
  have hms : ∀ r, r < C.length → (M.getD r 0 = 2 ^ g.sets.toNat - 1 ↔ ∀ b, (2 ^ g.sets.toNat - 1).testBit b = true → (M.getD r 0).toNat.testBit b = true) := fun r hr => by
    rw [← hpow]
    constructor
    · intro he b hb
      rw [he, Int.toNat_natCast]; exact hb
    · intro hb
      have : (M.getD r 0).toNat = 2 ^ g.sets.toNat - 1 := bits_ext fun b => ⟨fun hh => ?_, hb b⟩
      · have := hps r; omega
      · obtain ⟨q, i, _, h2, h3⟩ := (h.mb r hr b).1 hh
        have := hgin i h2.2.1
        unfold GIn at this
        rw [Nat.testBit_two_pow_sub_one]
        exact decide_eq_true (bit_lt (pow_toNat this.2.2.2.1 this.2.2.2.2.2) h3)
  have hpt : ∀ r q i, InS g s l C r q i → q * g.states.toNat + (g.edges.getD i default).src.toNat < (s.length + l.length) * g.states.toNat ∧ nextN s l q * g.states.toNat + (g.edges.getD i default).dst.toNat < (s.length + l.length) * g.states.toNat ∧
      (nextN s l q * g.states.toNat + (g.edges.getD i default).dst.toNat, (g.edges.getD i default).marks) ∈ (ptsG g.states.toNat s l g.edges).getD (q * g.states.toNat + (g.edges.getD i default).src.toNat) [] := by
    rintro r q i ⟨h1, h2, h3, _⟩
    have hi := hgin i h2
    unfold GIn at hi
    refine ⟨pt_lt h1 (by omega), pt_lt (nextN_lt h1 hl0) (by omega), (step_pts hg).2 ?_⟩
    rw [pt_div (by omega), pt_mod (by omega)]
    exact ⟨h1, _, getD_mem' h2, h3, rfl, rfl, rfl⟩
  unfold Lives
  rw [length_ptsG, adj_pts hg]
  constructor
  · rintro ⟨r, hr, h1, h2⟩
    obtain ⟨q, i, _, hin⟩ := (h.sm r hr).1 h1
    obtain ⟨g1, g2, g3⟩ := hpt _ q i hin
    obtain ⟨_, _, _, _, c1, c2⟩ := hin
    have hb := (hC.begun g1).1 (by rw [c1]; omega)
    refine ⟨_, g1, (beg_rch hg hl0).1 hb, ⟨_, g3, (hC.eq g1 g2 hb hBm).1 (c1.trans c2.symm)⟩, fun b hbit => ?_⟩
    obtain ⟨q', i', _, hin', hbit'⟩ := (h.mb r hr b).1 ((hms r hr).1 h2 b hbit)
    obtain ⟨k1, k2, k3⟩ := hpt _ q' i' hin'
    obtain ⟨_, _, _, _, d1, d2⟩ := hin'
    exact ⟨_, _, k3, (hC.eq g1 k1 hb hBm).1 (c1.trans d1.symm), (hC.eq g1 k2 hb hBm).1 (c1.trans d2.symm), hbit'⟩
  · rintro ⟨p, hp, hr, ⟨⟨y, m⟩, hs, hm⟩, hall⟩
    have hb := (beg_rch hg hl0).2 hr
    obtain ⟨z, hz, c1, c2, c3⟩ := (hC.2 p hp).1 hb
    have key : ∀ q y m, (y, m) ∈ (ptsG g.states.toNat s l g.edges).getD q [] → Mut (PA g s l) p q → Mut (PA g s l) p y → ∃ i, InS g s l C z (q / g.states.toNat) i ∧ (g.edges.getD i default).marks = m := by
      intro q y m hst hpq hpy
      obtain ⟨h1, e, he, h2, h3, h4, h5⟩ := (step_pts hg).1 hst
      obtain ⟨i, hi, rfl⟩ := edge_ix he
      have hi' := hgin i hi
      unfold GIn at hi'
      have hql := pt_lt (n := g.states.toNat) (v := q % g.states.toNat) h1 (by omega)
      rw [pt_eq] at hql
      have hyl := pt_lt (n := g.states.toNat) (v := (g.edges.getD i default).dst.toNat) (nextN_lt h1 hl0) (by omega)
      rw [← h4] at hyl
      refine ⟨i, ⟨h1, hi, h2, by omega, ?_, ?_⟩, h5.symm⟩
      · rw [h3, pt_eq, ← (hC.eq hp hql hb hBm).2 hpq]; exact c1
      · rw [← h4, ← (hC.eq hp hyl hb hBm).2 hpy]; exact c1
    have hbef : ∀ q i, q < s.length + l.length → Bef (s.length + l.length) 0 q i := fun q i hq => .inl hq
    refine ⟨z, by omega, (h.sm z (by omega)).2 ?_, (hms z (by omega)).2 fun b hbit => (h.mb z (by omega) b).2 ?_⟩
    · obtain ⟨i, hi, _⟩ := key p y m hs Mut.refl hm
      exact ⟨_, i, hbef _ _ hi.1, hi⟩
    · obtain ⟨q, ⟨y', m'⟩, hs', hpq, hpy, hb'⟩ := hall b hbit
      obtain ⟨i, hi, rfl⟩ := key q y' m' hs' hpq hpy
      exact ⟨_, i, hbef _ _ hi.1, hi, hb'⟩
theorem bools_rep {n : Nat} : List.replicate ((n : Nat) : Int).toNat [AV.bool false] = bools (List.replicate n false) := by simp [bools]
theorem ints_rep0 {n : Nat} : List.replicate ((n : Nat) : Int).toNat [AV.int .i64 0] = ints (List.replicate n 0) := by simp [ints]
theorem let_ok {s l : List Int} {k : Int} (h : wordOk s l k = true) : LetOk s l ∧ s.length ≤ 40 ∧ l.length ≤ 40 ∧ 0 < l.length := by
  unfold wordOk at h
  simp only [Bool.and_eq_true, decide_eq_true_eq] at h
  obtain ⟨⟨⟨⟨h1, h2⟩, h3⟩, h4⟩, h5⟩ := h
  refine ⟨fun p hp => ?_, h2, by omega, by omega⟩
  have key : ∀ (l : List Int), lettersB l k = true → ∀ i, i < l.length → 0 ≤ l.getD i 0 ∧ l.getD i 0 < 8 := fun l hl i hi => by
    simp only [lettersB, List.all_eq_true, decide_eq_true_eq] at hl
    have hm : l.getD i 0 ∈ l := by rw [List.getD_eq_getElem?_getD, List.getElem?_eq_getElem hi]; exact List.getElem_mem hi
    have := hl _ hm
    omega
  unfold letN
  split
  · rename_i hh; exact key s h4 p hh
  · exact key l h5 _ (by omega)
theorem RComps_eq {xs : List AV} {g : GenD} {s l : List Int} (hx : xs = [.agg (genRow g), wordV s l]) (hg : GenOk g) (h0 : 0 < g.states) (hw : LetOk s l) (h1 : s.length ≤ 100) (h2 : l.length ≤ 100) (h3 : 0 < l.length) :
  RComps xs (.ref 0 0 ((s.length + l.length) * g.states.toNat)) [.arr 1 (ints (compsL (PA g s l) (Beg g s l) ((s.length + l.length) * g.states.toNat)))] := ⟨g, s, l, hx, hg, h0, hw, h1, h2, h3, rfl, rfl⟩
def RTakesG (xs : List AV) (r : AV) (objs : List AObj) : Prop := ∃ (g : GenD) (s l : List Int) (b : Bool), xs = [.agg (genRow g), wordV s l] ∧ (b = true ↔ TakesG g s l) ∧ r = .bool b ∧ objs = []
set_option maxHeartbeats 8000000 in
theorem s_spec_GenTakes : PureSound Try.prog 68 RTakesG := by
  have hR : Rely Try.prog (ctxOf [(69, .pure RGenOk), (47, .pure RWordOk), (99, .pure RComps), (91, .pure RPlacesS), (93, .pure RL3At), (92, .pure RAfter)]) :=
    rely_cons b_spec_GenOk.has s_spec_GenOk (rely_cons b_spec_WordOk.has s_spec_WordOk (rely_cons b_spec_l6Comps.has s_spec_l6Comps (rely_cons b_spec_l6Places.has s_spec_l6Places (rely_cons b_spec_l3At.has s_spec_l3At (rely_cons b_spec_l6After.has s_spec_l6After (rely_nil mixed))))))
  refine pure_of_aw b_spec_GenTakes ?_
  rintro xs r objs ⟨g, s, l, b, rfl, hb0, rfl, rfl⟩ -
  refine ⟨by simp, vc2_sound hR _ _ _ _ _ ?_⟩
  have hno : ¬ TakesG g s l → b = false := fun h => Bool.eq_false_iff.2 fun hb => h (hb0.1 hb)
  by_cases hg : GenOk g
  rotate_left
  · obtain rfl := hno fun h => hg h.1
    conv => whnf
    repeat' ((first | contradiction | (refine And.intro (fun hb => ?_) (fun hb => ?_) <;> first | contradiction | ((try simp only [SB, reduceCtorEq] at hb); try (exfalso; first | contradiction | omega))) | refine G2 ?_ | rw [ints_at (by omega)] | rw [ints_at0 (by omega)] | rw [ints_at' (by omega) (by omega)] | refine G1 ?_ | refine ⟨_, _, RGenOk_mk, ?_⟩ | refine ⟨_, _, RWordOk_mk, ?_⟩ | fail) <;> conv => whnf)
    refine ⟨.inl rfl, ?_⟩
    conv => whnf
    refine ⟨[], ⟨rfl, trivial⟩, ?_, rfl, rfl⟩
    conv => whnf
    left
    conv => lhs; whnf
  cases hw : wordOk s l g.letters
  · obtain rfl := hno fun h => by have := h.2.1; rw [hw] at this; cases this
    conv => whnf
    repeat' ((first | contradiction | (refine And.intro (fun hb => ?_) (fun hb => ?_) <;> first | contradiction | ((try simp only [SB, reduceCtorEq] at hb); try (exfalso; first | contradiction | omega))) | refine G2 ?_ | rw [ints_at (by omega)] | rw [ints_at0 (by omega)] | rw [ints_at' (by omega) (by omega)] | refine G1 ?_ | refine ⟨_, _, RGenOk_mk, ?_⟩ | refine ⟨_, _, ⟨s, l, g.letters, rfl, congrArg AV.bool hw.symm, rfl⟩, ?_⟩ | fail) <;> conv => whnf)
    refine ⟨.inl rfl, ?_⟩
    conv => whnf
    refine ⟨[], ⟨rfl, trivial⟩, ?_, rfl, rfl⟩
    conv => whnf
    left
    conv => lhs; whnf
  obtain ⟨hlo, hs, hl, hl0⟩ := let_ok hw
  by_cases h0 : g.states = 0
  · obtain rfl := hno fun h => by
      obtain ⟨_, _, p, hp, _⟩ := h
      rw [length_ptsG, h0] at hp
      simp at hp
    conv => whnf
    repeat' ((first | contradiction | (refine And.intro (fun hb => ?_) (fun hb => ?_) <;> first | contradiction | ((try simp only [SB, reduceCtorEq] at hb); try (exfalso; first | contradiction | omega))) | refine G2 ?_ | rw [ints_at (by omega)] | rw [ints_at0 (by omega)] | rw [ints_at' (by omega) (by omega)] | refine G1 ?_ | refine ⟨_, _, RGenOk_mk, ?_⟩ | refine ⟨_, _, ⟨s, l, g.letters, rfl, congrArg AV.bool hw.symm, rfl⟩, ?_⟩ | fail) <;> conv => whnf)
    refine ⟨.inl rfl, ?_⟩
    conv => whnf
    refine ⟨[], ⟨rfl, trivial⟩, ?_, rfl, rfl⟩
    conv => whnf
    left
    conv => lhs; whnf
  have hst := hg.1.2.1
  have hNN : (s.length + l.length) * g.states.toNat ≤ 80 * 31 := Nat.mul_le_mul (by omega) (by omega)
  have hC := isComps_L (PA g s l) (Beg g s l) ((s.length + l.length) * g.states.toNat)
  have hto := fun S M h => takes_of hg hl0 hC (S := S) (M := M) h
  have hrc : ∀ xs, xs = [.agg (genRow g), wordV s l] → RComps xs (.ref 0 0 ((s.length + l.length) * g.states.toNat)) [.arr 1 (ints (compsL (PA g s l) (Beg g s l) ((s.length + l.length) * g.states.toNat)))] := fun xs hx => RComps_eq hx hg (by omega) hlo (by omega) (by omega) hl0
  have hCl := hC.1
  have hel := length_gedgeRows g.edges
  have hel2 := hg.2.2.1
  have hptl : ∀ p v, p < s.length + l.length → v < g.states.toNat → p * g.states.toNat + v < (s.length + l.length) * g.states.toNat := fun p v h1 h2 => pt_lt h1 h2
  generalize hCC : compsL (PA g s l) (Beg g s l) ((s.length + l.length) * g.states.toNat) = C at *
  generalize hM : (s.length + l.length) * g.states.toNat = M at *
  have hCi := (length_ints C).trans hCl
  conv => whnf
  repeat' ((first | contradiction | (refine And.intro (fun hb => ?_) (fun hb => ?_) <;> first | contradiction | ((try simp only [SB, reduceCtorEq] at hb); try (exfalso; first | contradiction | omega))) | refine G2 ?_ | rw [ints_at (by omega)] | rw [ints_at0 (by omega)] | rw [ints_at' (by omega) (by omega)] | refine G1 ?_ | refine ⟨_, _, RGenOk_mk, ?_⟩ | refine ⟨_, _, ⟨s, l, g.letters, rfl, congrArg AV.bool hw.symm, rfl⟩, ?_⟩ | refine ⟨_, _, hrc _ rfl, ?_⟩ | fail) <;> conv => whnf)
  clear hb
  refine Lp.intro (α := Nat × List Bool × List Int) (fun c => TkI g s l C c.1 0 c.2.1 c.2.2 ∧ c.1 ≤ s.length + l.length) (fun c => s.length + l.length - c.1)
    (fun c => [(2, .rptr (genRow g) 0), (3, wordP s l), (5, .val (ints C)), (6, .ref 0 0 M), (7, .ref 1 0 M), (8, .int .i64 c.1)]) (fun c => [some (.arr 1 (ints c.2.2)), some (.arr 1 (bools c.2.1))]) ?_ ?_
  · refine ⟨(0, List.replicate C.length false, List.replicate C.length 0), ⟨tk_start, Nat.zero_le _⟩, [some 3, some 4], rfl, rfl, And.intro (And.intro rfl ?_) (And.intro (And.intro rfl ?_) trivial), ?_⟩
    · rw [hCl]; exact ints_rep0
    · rw [hCl]; exact bools_rep
    · exact ⟨.inr rfl, .inr rfl, .inr (snap_all rfl hCi), rfl, rfl, .inl rfl, trivial⟩
  rintro ⟨p, S, MM⟩ ⟨hI, hp⟩
  dsimp only at hI hp ⊢
  refine vc2_sound hR _ _ _ _ _ ?_
  by_cases hlt : p < s.length + l.length
  · conv => whnf
    repeat' ((first | contradiction | (refine And.intro (fun hb => ?_) (fun hb => ?_) <;> first | contradiction | ((try simp only [SB, reduceCtorEq] at hb); try (exfalso; first | contradiction | omega))) | refine G2 ?_ | rw [ints_at (by omega)] | rw [ints_at0 (by omega)] | rw [ints_at' (by omega) (by omega)] | refine G1 ?_ | refine ⟨_, _, RPlacesS_eq rfl (by omega) (by omega), ?_⟩ | fail) <;> conv => whnf)
    refine Lp.intro (α := Nat × List Bool × List Int) (fun c => TkI g s l C p c.1 c.2.1 c.2.2 ∧ c.1 ≤ g.edges.length) (fun c => g.edges.length - c.1)
      (fun c => [(2, .rptr (genRow g) 0), (3, wordP s l), (5, .val (ints C)), (6, .ref 0 0 M), (7, .ref 1 0 M), (8, .int .i64 p), (9, .int .i64 c.1)]) (fun c => [some (.arr 1 (ints c.2.2)), some (.arr 1 (bools c.2.1))]) ?_ ?_
    · refine ⟨(0, S, MM), ⟨hI, Nat.zero_le _⟩, [some 0, some 1], rfl, rfl, And.intro (And.intro rfl rfl) (And.intro (And.intro rfl rfl) trivial), ?_⟩
      exact ⟨.inl rfl, .inl rfl, .inl rfl, rfl, rfl, .inl rfl, .inl rfl, trivial⟩
    clear hI MM S
    rintro ⟨i, S, MM⟩ ⟨hI, hi⟩
    dsimp only at hI hi ⊢
    have hSl := hI.ls.trans hCl
    have hMl := hI.lm.trans hCl
    have hMi := (length_ints MM).trans hMl
    have hSi := (length_bools S).trans hSl
    refine vc2_sound hR _ _ _ _ _ ?_
    by_cases hil : i < g.edges.length
    · have hin := gin hg hil
      have hat := gedge_at hil
      have hnx := nextN_lt hlt hl0
      unfold GIn at hin
      have hXl := hptl p (g.edges.getD i default).src.toNat hlt (by omega)
      have hYl := hptl (nextN s l p) (g.edges.getD i default).dst.toNat hnx (by omega)
      have hX : IntKind.i64.wrap (((p : Nat) : Int) * g.states) = ((p * g.states.toNat : Nat) : Int) := by
        rw [show ((p : Nat) : Int) * g.states = ((p * g.states.toNat : Nat) : Int) by rw [Int.natCast_mul, Int.toNat_of_nonneg hst.1]]
        exact IntWalk.i64_in _ (by omega)
      have hY : IntKind.i64.wrap (((nextN s l p : Nat) : Int) * g.states) = ((nextN s l p * g.states.toNat : Nat) : Int) := by
        rw [show ((nextN s l p : Nat) : Int) * g.states = ((nextN s l p * g.states.toNat : Nat) : Int) by rw [Int.natCast_mul, Int.toNat_of_nonneg hst.1]]
        exact IntWalk.i64_in _ (by omega)
      have hskip : ∀ r, InS g s l C r p i → (g.edges.getD i default).letter = letN s l p ∧ 0 ≤ C.getD (p * g.states.toNat + (g.edges.getD i default).src.toNat) 0 ∧
        C.getD (p * g.states.toNat + (g.edges.getD i default).src.toNat) 0 = C.getD (nextN s l p * g.states.toNat + (g.edges.getD i default).dst.toNat) 0 := fun r ⟨_, _, h3, h4, h5, h6⟩ => ⟨h3, by omega, h5.trans h6.symm⟩
      have hput : ∀ z : Nat, z < C.length → C.getD (p * g.states.toNat + (g.edges.getD i default).src.toNat) 0 = z → (g.edges.getD i default).letter = letN s l p →
        C.getD (p * g.states.toNat + (g.edges.getD i default).src.toNat) 0 = C.getD (nextN s l p * g.states.toNat + (g.edges.getD i default).dst.toNat) 0 → TkI g s l C p (i + 1) (S.set z true) (MM.set z (((MM.getD z 0).toNat ||| (g.edges.getD i default).marks.toNat : Nat) : Int)) :=
        fun z hz h1 h2 h3 => hI.put hz ⟨hlt, hil, h2, by omega, h1, by omega⟩ rfl (by omega)
      have hkeep : (∀ r, ¬ InS g s l C r p i) → TkI g s l C p (i + 1) S MM := fun h => hI.skip h
      have hpos := hI.pos
      have hCX : ∀ X, X < M → C.getD X 0 < 0 ∨ ∃ z : Nat, z < M ∧ C.getD X 0 = z := fun X hX => by
        by_cases hbx : Beg g s l X
        · obtain ⟨z, h1, h2, _⟩ := (hC.2 X hX).1 hbx
          exact .inr ⟨z, h1, h2⟩
        · have := (hC.2 X hX).2 hbx
          exact .inl (by omega)
      have hcx := hCX _ hXl
      generalize g.edges.getD i default = e at *
      obtain ⟨X, hXX⟩ : ∃ X, p * g.states.toNat + e.src.toNat = X := ⟨_, rfl⟩
      obtain ⟨Y, hYY⟩ : ∃ Y, nextN s l p * g.states.toNat + e.dst.toNat = Y := ⟨_, rfl⟩
      rw [hXX] at hXl hskip hput hcx
      rw [hYY] at hYl hskip hput
      have hXi : ((p * g.states.toNat : Nat) : Int) + e.src = ((X : Nat) : Int) := by omega
      have hYi : ((nextN s l p * g.states.toNat : Nat) : Int) + e.dst = ((Y : Nat) : Int) := by omega
      generalize p * g.states.toNat = pn at *
      generalize nextN s l p * g.states.toNat = qn at *
      have aX := ints_at (xs := C) (i := X) (by omega)
      have aY := ints_at (xs := C) (i := Y) (by omega)
      rcases hcx with hneg | ⟨z, hz, hzz⟩
      · generalize C.getD X 0 = cx at *
        conv => whnf
        repeat' ((first | contradiction | (refine And.intro (fun hb => ?_) (fun hb => ?_) <;> first | contradiction | ((try simp only [SB, reduceCtorEq] at hb); try (exfalso; first | contradiction | omega))) | rw [hat] | rw [hXi] | rw [aX] | refine G2 ?_ | rw [ints_at (by omega)] | rw [ints_at0 (by omega)] | rw [ints_at' (by omega) (by omega)] | refine G1 ?_ | refine ⟨_, hX, ?_⟩ | refine ⟨_, _, RL3At_eq rfl (by omega) (by omega) hlt, ?_⟩ | fail) <;> conv => whnf)
        all_goals
          refine ⟨(i + 1, S, MM), ⟨hkeep fun r hr => ?_, hil⟩, by dsimp only; omega, [some 0, some 1], rfl, rfl, And.intro (And.intro rfl rfl) (And.intro (And.intro rfl rfl) trivial), ?_⟩
          · have := hskip r hr; omega
          · exact ⟨.inl rfl, .inl rfl, .inl rfl, rfl, rfl, .inl rfl, .inl rfl, trivial⟩
      · rw [hzz] at aX hput hskip
        generalize C.getD Y 0 = cy at *
        have hor := or_val (X := (MM.getD z 0).toNat) (Y := e.marks.toNat) (by have := hpos z; omega) (by omega)
        rw [Int.toNat_of_nonneg (hpos z).1, Int.toNat_of_nonneg hin.2.2.2.1] at hor
        have aM := ints_at0 (xs := MM) (i := z) (by omega)
        have aS := bools_at0 (l := S) (i := z) (by omega)
        conv => whnf
        repeat' ((first | contradiction | (refine And.intro (fun hb => ?_) (fun hb => ?_) <;> first | contradiction | ((try simp only [SB, reduceCtorEq] at hb); try (exfalso; first | contradiction | omega))) | rw [hat] | rw [hXi] | rw [hYi] | rw [aX] | rw [aY] | rw [aM] | rw [aS] | refine G2 ?_ | rw [ints_at (by omega)] | rw [ints_at0 (by omega)] | rw [ints_at' (by omega) (by omega)] | refine G1 ?_ | refine ⟨_, hX, ?_⟩ | refine ⟨_, hY, ?_⟩ | refine ⟨_, _, RL3At_eq rfl (by omega) (by omega) hlt, ?_⟩ | refine ⟨_, _, RAfter_eq rfl (by omega) (by omega) hlt, ?_⟩ | fail) <;> conv => whnf)
        · refine ⟨(i + 1, S.set z true, _), ⟨hput z (by omega) rfl (by assumption) (by assumption), hil⟩, by dsimp only; omega, [some 0, some 1], rfl, rfl, And.intro (And.intro rfl ?_) (And.intro (And.intro rfl bools_set) trivial), ?_⟩
          · rw [← ints_set]
            exact congrArg (fun v => (ints MM).set (0 + ((z : Nat) : Int).toNat) [AV.int .i64 v]) hor
          · exact ⟨.inl rfl, .inl rfl, .inl rfl, rfl, rfl, .inl rfl, .inl rfl, trivial⟩
        all_goals
          refine ⟨(i + 1, S, MM), ⟨hkeep fun r hr => ?_, hil⟩, by dsimp only; omega, [some 0, some 1], rfl, rfl, And.intro (And.intro rfl rfl) (And.intro (And.intro rfl rfl) trivial), ?_⟩
          · have := hskip r hr; omega
          · exact ⟨.inl rfl, .inl rfl, .inl rfl, rfl, rfl, .inl rfl, .inl rfl, trivial⟩
    · conv => whnf
      repeat' ((first | contradiction | (refine And.intro (fun hb => ?_) (fun hb => ?_) <;> first | contradiction | ((try simp only [SB, reduceCtorEq] at hb); try (exfalso; first | contradiction | omega))) | refine G2 ?_ | rw [ints_at (by omega)] | rw [ints_at0 (by omega)] | rw [ints_at' (by omega) (by omega)] | refine G1 ?_ | fail) <;> conv => whnf)
      refine ⟨(p + 1, S, MM), ⟨hI.next (by omega), hlt⟩, by dsimp only; omega, [some 0, some 1], rfl, rfl, And.intro (And.intro rfl rfl) (And.intro (And.intro rfl rfl) trivial), ?_⟩
      exact ⟨.inl rfl, .inl rfl, .inl rfl, rfl, rfl, .inl rfl, trivial⟩
  · obtain rfl : p = s.length + l.length := by omega
    have hSl := hI.ls.trans hCl
    have hMl := hI.lm.trans hCl
    have hMi := (length_ints MM).trans hMl
    have hSi := (length_bools S).trans hSl
    have hfin := hto _ _ hI
    have hsets := hg.2.1
    conv => whnf
    repeat' ((first | contradiction | (refine And.intro (fun hb => ?_) (fun hb => ?_) <;> first | contradiction | ((try simp only [SB, reduceCtorEq] at hb); try (exfalso; first | contradiction | omega))) | refine G2 ?_ | rw [ints_at (by omega)] | rw [ints_at0 (by omega)] | rw [ints_at' (by omega) (by omega)] | refine G1 ?_ | refine ⟨_, _, RPlacesS_eq rfl (by omega) (by omega), ?_⟩ | fail) <;> conv => whnf)
    refine Lp.intro (α := Nat) (fun r => r ≤ M ∧ ∀ k, k < r → ¬ (S.getD k false = true ∧ MM.getD k 0 = 2 ^ g.sets.toNat - 1)) (fun r => M - r)
      (fun r => [(2, .rptr (genRow g) 0), (6, .ref 0 0 M), (7, .ref 1 0 M), (12, .int .i64 r)]) (fun c => [some (.arr 1 (ints MM)), some (.arr 1 (bools S))]) ?_ ?_
    · refine ⟨0, ⟨Nat.zero_le _, fun k hk => by omega⟩, [some 0, some 1], rfl, rfl, And.intro (And.intro rfl rfl) (And.intro (And.intro rfl rfl) trivial), ?_⟩
      exact ⟨.inl rfl, rfl, rfl, .inl rfl, trivial⟩
    rintro r ⟨hr, hall⟩
    refine vc2_sound hR _ _ _ _ _ ?_
    by_cases hrl : r < M
    · have aM := ints_at0 (xs := MM) (i := r) (by omega)
      have aS := bools_at0 (l := S) (i := r) (by omega)
      conv => whnf
      repeat' ((first | contradiction | (refine And.intro (fun hb => ?_) (fun hb => ?_) <;> first | contradiction | ((try simp only [SB, reduceCtorEq] at hb); try (exfalso; first | contradiction | omega))) | rw [aM] | rw [aS] | refine G2 ?_ | rw [ints_at (by omega)] | rw [ints_at0 (by omega)] | rw [ints_at' (by omega) (by omega)] | refine G1 ?_ | refine ⟨_, mask_in (by omega) (by omega), ?_⟩ | fail) <;> conv => whnf)
      · refine ⟨.inl rfl, ?_⟩
        conv => whnf
        refine ⟨[], ⟨rfl, trivial⟩, ?_, rfl, rfl⟩
        conv => whnf
        left
        conv => lhs; whnf
        refine congrArg AV.bool (Eq.symm (hb0.2 ⟨hg, hw, hfin.1 ⟨r, by omega, ?_, ?_⟩⟩)) <;> assumption
      all_goals
        refine ⟨r + 1, ⟨hrl, fun k hk => ?_⟩, by omega, [some 0, some 1], rfl, rfl, And.intro (And.intro rfl rfl) (And.intro (And.intro rfl rfl) trivial), ?_⟩
        · by_cases hkr : k = r
          · subst hkr; intro hh; simp_all
          · exact hall k (by omega)
        · exact ⟨.inl rfl, rfl, rfl, .inl rfl, trivial⟩
    · conv => whnf
      repeat' ((first | contradiction | (refine And.intro (fun hb => ?_) (fun hb => ?_) <;> first | contradiction | ((try simp only [SB, reduceCtorEq] at hb); try (exfalso; first | contradiction | omega))) | refine G2 ?_ | rw [ints_at (by omega)] | rw [ints_at0 (by omega)] | rw [ints_at' (by omega) (by omega)] | refine G1 ?_ | fail) <;> conv => whnf)
      refine ⟨.inl rfl, ?_⟩
      conv => whnf
      refine ⟨[], ⟨rfl, trivial⟩, ?_, rfl, rfl⟩
      conv => whnf
      left
      conv => lhs; whnf
      refine congrArg AV.bool (Eq.symm (hno fun ht => ?_))
      obtain ⟨k, h1, h2, h3⟩ := hfin.2 ht.2.2
      exact hall k (by omega) ⟨h2, h3⟩
def c_impl_AutoTakes : ICode := (.seq (.reg [O1 2 (.box 4) 0, O1 3 (.box 2) 1, Ol 4 .mv [cb false]]) (.seq (.drw [O1 5 (.ldn 4) 2, O1 6 (.call 70) 5, O1 7 .mv 6, Og 8 (.ldn 2) [.t 3] 7 true, Og 9 (.fadr 0) [.t 2] 7 true, Og 10 .ld1 [.t 9] 7 true, Og 11 (.call 85) [.t 8, .t 10] 7 true, Ol 12 .pick [.t 7, .t 11, cb false], O1 13 .mv 12, Og 14 (.fadr 1) [.t 2] 13 true, Og 15 .ld1 [.t 14] 13 true, Og 16 (.ldn 4) [.t 2] 13 true, Og 17 (.call 102) [.t 16] 13 true, Og 18 (.fld1 4) [.t 17] 13 true, Og 19 (.ldn 2) [.t 3] 13 true, Og 20 (.call 101) [.t 15, .t 18, .t 19] 13 true, Og 21 (.fadr 2) [.t 2] 13 true, Og 22 .ld1 [.t 21] 13 true, Og 23 (.call 80) [.t 22] 13 true, Og 24 (.call 118) [.t 20, .t 23, ci 1] 13 true, Ol 25 .pick [.t 13, .t 24, cb false], O1 4 .mv 25] (unB [0, 1, 3, 7, 7, 23, 63, 127, 255, 511, 1023, 511, 2559, 6655, 511, 32767, 511, 66047, 262143, 524287, 1048575, 2097151] 0) true true) .ret))
theorem b_impl_AutoTakes : Body Try.prog 39 26 c_impl_AutoTakes [(.t 4)] := body_mk Try.func39 (by kernel_rfl) (by decide)
def TakesA (a : AutoD) (s l : List Int) : Prop := AutoOk a ∧ TakesG (genOfD a) s l
theorem snap_gen {h : Heap} {o : Nat} {g : GenD} (ho : h o = some (.arr 4 (gedgeRows g.edges))) : (AV.agg (genRef o g)).snap h = .agg (genRow g) :=
  snap_agg (cells_cons rfl (cells_cons rfl (cells_cons rfl (cells_cons rfl (cells_cons (snap1_all ho (length_gedgeRows _)) rfl)))))
theorem snap_gv {g : GenD} : AV.snap1 (objsH [AObj.arr 4 (gedgeRows g.edges)]) (AV.ref 0 0 g.edges.length) = .val (gedgeRows g.edges) := snap1_all rfl (length_gedgeRows _)
theorem snapT_ints {l : List Int} {n : Nat} (h : (ints l).length = n) : AV.snapT (objsH [AObj.arr 1 (ints l)]) (AV.ref 0 0 n) = .val (ints l) := by
  show AV.snap (objsH [AObj.arr 1 (ints l)]) (AV.ref 0 0 n) = .val (ints l)
  exact snap_all rfl h
theorem snap_gr {h : Heap} {G : GraphD} {n m : Nat} (hn : G.length = n) : (AV.rptr (List.map (AV.snap1 (objsH [gBox 1 m, gNst G])) [AV.ref 1 0 n]) 0).snap h = .rptr [.val (gRows G)] 0 := by
  subst hn
  have e := thaw_g G
  have hl : (gOwns G).length = G.length := by simp [gOwns]
  have e1 : AV.snap1 (objsH [gBox 1 m, gNst G]) (AV.ref 1 0 G.length) = .val (gRows G) := by
    have e0 : objsH [gBox 1 m, gNst G] 1 = some (gNst G) := rfl
    simp only [AV.snap1, e0]
    rw [if_pos (by omega)]
    unfold sub
    rw [List.drop_zero, List.take_of_length_le (by omega), e]
  show AV.rptr (List.map (AV.snap1 (objsH [gBox 1 m, gNst G])) [AV.ref 1 0 G.length]) 0 = _
  rw [List.map_cons, List.map_nil, e1]
def RTakesA (xs : List AV) (r : AV) (objs : List AObj) : Prop := ∃ (a : AutoD) (s l : List Int) (b : Bool), xs = [.agg (autoRow a), wordV s l] ∧ (b = true ↔ TakesA a s l) ∧ r = .bool b ∧ objs = []
theorem gok_pts {g : GenD} (hg : GenOk g) {s l : List Int} (hl0 : 0 < l.length) : GOk (ptsG g.states.toNat s l g.edges) := by
  rintro p ⟨y, m⟩ hs
  rw [length_ptsG]
  obtain ⟨h1, e, he, h2, h3, h4, h5⟩ := (step_pts hg).1 hs
  have hi := gmem hg he
  unfold GIn at hi
  show y < _
  rw [h4]
  exact pt_lt (nextN_lt h1 hl0) (by omega)
theorem marks_pts {g : GenD} (hg : GenOk g) {s l : List Int} : MarksOk (ptsG g.states.toNat s l g.edges) := by
  rintro p ⟨y, m⟩ hs
  obtain ⟨h1, e, he, h2, h3, h4, h5⟩ := (step_pts hg).1 hs
  have hi := gmem hg he
  unfold GIn at hi
  subst h5
  show 0 ≤ e.marks ∧ e.marks < 2 ^ 31
  omega
theorem steps_pts {g : GenD} (hg : GenOk g) {s l : List Int} (h1 : s.length ≤ 40) (h2 : l.length ≤ 40) : steps (ptsG g.states.toNat s l g.edges) ≤ 1000000000 := by
  have hN : (s.length + l.length) * g.states.toNat ≤ 80 * 31 := Nat.mul_le_mul (by omega) (by have := hg.1.2.1; omega)
  have h := steps_mkG (n := (s.length + l.length) * g.states.toNat) (l := ptAll g.states.toNat s l g.edges (s.length + l.length))
  have h3 := ptAll_len (n := g.states.toNat) (s := s) (l := l) (es := g.edges) (s.length + l.length)
  have h4 : (s.length + l.length) * g.edges.length ≤ 80 * 2000 := Nat.mul_le_mul (by omega) hg.2.2.1
  have h5 : (s.length + l.length) * g.states.toNat * (ptAll g.states.toNat s l g.edges (s.length + l.length)).length ≤ (80 * 31) * (80 * 2000) := Nat.mul_le_mul hN (by omega)
  unfold ptsG
  omega
theorem start_pts {g : GenD} (hg : GenOk g) {s l : List Int} (hl0 : 0 < l.length) : ∀ p ∈ bitL g.start.toNat 31, p < (ptsG g.states.toNat s l g.edges).length := by
  intro p hp
  have hb := bit_lt (gstart_lt hg) (mem_bitL.1 hp).2
  rw [length_ptsG]
  have := Nat.mul_le_mul_right g.states.toNat (show 1 ≤ s.length + l.length by omega)
  omega
theorem RPoints_eq {xs : List AV} {n : Int} {es : List GEdgeD} {s l : List Int} (hx : xs = [.int .i64 n, .val (gedgeRows es), wordV s l]) (h0 : 0 ≤ n) (h1 : n ≤ 64) (h2 : es.length ≤ 2000) (h3 : EdgesIn n.toNat es) (h4 : s.length ≤ 100) (h5 : l.length ≤ 100) (h6 : 0 < l.length) :
    RPoints xs (.ptr 0 0 0) [gBox 1 ((s.length + l.length) * n.toNat), gNst (ptsG n.toNat s l es)] := ⟨n.toNat, es, s, l, by rw [hx, Int.toNat_of_nonneg h0], by omega, h2, h3, h4, h5, h6, rfl, rfl⟩
theorem edges_in {g : GenD} (hg : GenOk g) : EdgesIn g.states.toNat g.edges := fun i hi => by
  have := gin hg hi
  unfold GIn at this
  omega
theorem RLives_eq {xs : List AV} {G : GraphD} {src : List Nat} {all : Nat} {b : Bool} (hx : xs = [.rptr [.val (gRows G)] 0, .val (ints (natsI src)), .int .i64 ((all : Nat) : Int)]) (h1 : GOk G) (h2 : MarksOk G) (h3 : G.length ≤ 100000) (h4 : steps G ≤ 1000000000)
    (h5 : ∀ p ∈ src, p < G.length) (h6 : src.length ≤ 100000) (h7 : all < 2 ^ 31) (hb : b = true ↔ Lives G src all) : RLives xs (.bool b) [] := ⟨G, src, all, b, hx, h1, h2, h3, h4, h5, h6, h7, hb, rfl, rfl⟩
theorem RSetList_eq {xs : List AV} {X : Int} (hx : xs = [.int .i64 X]) (h0 : 0 ≤ X) (h : X < 2 ^ 31) : RSetList xs (.ref 0 0 (bitL X.toNat 31).length) [.arr 1 (ints (natsI (bitL X.toNat 31)))] := ⟨X.toNat, by rw [hx, Int.toNat_of_nonneg h0], by omega, rfl, rfl⟩
set_option maxHeartbeats 4000000 in
theorem s_impl_AutoTakes : PureSound Try.prog 39 RTakesA := by
  have hR : Rely Try.prog (ctxOf [(70, .pure RAutoOk), (85, .pure RWordOk), (102, .pure RGenOfI), (101, .pure RPoints), (80, .pure RSetList), (118, .pure RLives)]) :=
    rely_cons b_impl_AutoOk.has s_impl_AutoOk (rely_cons b_impl_WordOk.has s_impl_WordOk (rely_cons b_impl_genOf.has s_impl_genOf (rely_cons b_impl_pointsBy.has s_impl_pointsBy (rely_cons b_impl_SetList.has s_impl_SetList (rely_cons b_impl_graph_lives.has s_impl_lives (rely_nil mixed))))))
  refine pure_of_aw b_impl_AutoTakes ?_
  rintro xs r objs ⟨a, s, l, b, rfl, hb0, rfl, rfl⟩ -
  refine ⟨by simp, vc2_sound hR _ _ _ _ _ ?_⟩
  by_cases ha : AutoOk a
  rotate_left
  · obtain rfl : b = false := Bool.eq_false_iff.2 fun h => ha (hb0.1 h).1
    conv => whnf
    repeat' ((first | contradiction | (refine And.intro (fun hb => ?_) (fun hb => ?_) <;> first | contradiction | ((try simp only [SB, reduceCtorEq] at hb); try (exfalso; first | contradiction | omega))) | refine G2 ?_ | rw [ints_at (by omega)] | rw [ints_at0 (by omega)] | rw [ints_at' (by omega) (by omega)] | refine G1 ?_ | refine ⟨_, _, RAutoOk_mk, ?_⟩ | fail) <;> conv => whnf)
    refine ⟨.inl rfl, ?_⟩
    conv => whnf
    refine ⟨[], ⟨rfl, trivial⟩, ?_, rfl, rfl⟩
    conv => whnf
    left
    conv => lhs; whnf
  cases hw : wordOk s l a.letters
  · obtain rfl : b = false := Bool.eq_false_iff.2 fun h => by
      have := (hb0.1 h).2.2.1
      rw [show (genOfD a).letters = a.letters from rfl, hw] at this
      cases this
    conv => whnf
    repeat' ((first | contradiction | (refine And.intro (fun hb => ?_) (fun hb => ?_) <;> first | contradiction | ((try simp only [SB, reduceCtorEq] at hb); try (exfalso; first | contradiction | omega))) | refine G2 ?_ | rw [ints_at (by omega)] | rw [ints_at0 (by omega)] | rw [ints_at' (by omega) (by omega)] | refine G1 ?_ | refine ⟨_, _, RAutoOk_mk, ?_⟩ | refine ⟨_, _, ⟨s, l, a.letters, rfl, congrArg AV.bool hw.symm, rfl⟩, ?_⟩ | fail) <;> conv => whnf)
    refine ⟨.inl rfl, ?_⟩
    conv => whnf
    refine ⟨[], ⟨rfl, trivial⟩, ?_, rfl, rfl⟩
    conv => whnf
    left
    conv => lhs; whnf
  have hg := genOf_ok ha
  obtain ⟨hlo, hs, hl, hl0⟩ := let_ok hw
  have hst := ha.1.2.1
  have hsr := ha.1.2.2
  have hb1 : b = true ↔ Lives (ptsG a.states.toNat s l (genOfD a).edges) (bitL a.start.toNat 31) 1 := hb0.trans ⟨fun h => h.2.2.2, fun h => ⟨ha, hg, hw, h⟩⟩
  have g1 : GOk (ptsG a.states.toNat s l (genOfD a).edges) := gok_pts hg hl0
  have g2 : MarksOk (ptsG a.states.toNat s l (genOfD a).edges) := marks_pts hg
  have g3 : (ptsG a.states.toNat s l (genOfD a).edges).length = (s.length + l.length) * a.states.toNat := length_ptsG
  have g4 : steps (ptsG a.states.toNat s l (genOfD a).edges) ≤ 1000000000 := steps_pts hg hs hl
  have g5 : ∀ p ∈ bitL a.start.toNat 31, p < (ptsG a.states.toNat s l (genOfD a).edges).length := start_pts hg hl0
  have g6 : EdgesIn a.states.toNat (genOfD a).edges := edges_in hg
  have g7 := hg.2.2.1
  have g8 : (bitL a.start.toNat 31).length ≤ 31 := bitL_len
  have hNN : (s.length + l.length) * a.states.toNat ≤ 80 * 31 := Nat.mul_le_mul (by omega) (by omega)
  have hgl := length_gedgeRows (genOfD a).edges
  have hbl : (ints (natsI (bitL a.start.toNat 31))).length = (bitL a.start.toNat 31).length := by simp [ints]
  cases b
  all_goals
    conv => whnf
    repeat' ((first | contradiction | (refine And.intro (fun hb => ?_) (fun hb => ?_) <;> first | contradiction | ((try simp only [SB, reduceCtorEq] at hb); try (exfalso; first | contradiction | omega))) | rw [snap_gv] | rw [snapT_ints hbl] | refine G2 ?_ | rw [ints_at (by omega)] | rw [ints_at0 (by omega)] | rw [ints_at' (by omega) (by omega)] | refine G1 ?_ | refine ⟨_, _, RAutoOk_mk, ?_⟩ | refine ⟨_, _, ⟨s, l, a.letters, rfl, congrArg AV.bool hw.symm, rfl⟩, ?_⟩ | refine ⟨_, _, RGenOfI_eq rfl ha, ?_⟩ | refine ⟨_, _, RPoints_eq (s := s) (l := l) (args_cons rfl (args_cons rfl (args_cons rfl rfl))) (by omega) (by omega) g7 g6 (by omega) (by omega) hl0, ?_⟩ | refine ⟨_, _, RSetList_eq rfl (by omega) (by omega), ?_⟩ | refine ⟨_, _, RLives_eq (args_cons (snap_gr g3) (args_cons rfl (args_cons rfl rfl))) g1 g2 (by omega) g4 g5 (by omega) (by decide) hb1, ?_⟩ | fail) <;> conv => whnf)
    refine ⟨.inl rfl, ?_⟩
    conv => whnf
    refine ⟨[], ⟨rfl, trivial⟩, ?_, rfl, rfl⟩
    conv => whnf
    left
    conv => lhs; whnf
end Go.Proofs.Ythanhknkoikbfaa.Ct
namespace Go.Proofs.Ythanhknkoikbfaa.Ct
open Go Go.Proofs Go.Proofs.Ythanhknkoikbfaa.Av
def marks (k : Int) (n : Nat) : List Int := (List.range n).map fun i => k + (i : Nat)
@[simp] theorem length_marks (k : Int) (n : Nat) : (marks k n).length = n := by simp [marks]
/-! ### the laws' helpers -/
end Go.Proofs.Ythanhknkoikbfaa.Ct
namespace Go.Proofs.Ythanhknkoikbfaa.Ct
open Go Go.Proofs Go.Proofs.Ythanhknkoikbfaa.Av Go.Proofs.Ythanhknkoikbfaa.Pl

end Go.Proofs.Ythanhknkoikbfaa.Ct
namespace Go.Proofs.Ythanhknkoikbfaa.Ct
open Go Go.Proofs Go.Proofs.Ythanhknkoikbfaa.Av
theorem GDrawWord_nv (xs : List AV) (objs : List AObj) (Q : AV → List (Option AObj) → Prop) (h : GDrawWord xs objs Q) : ∃ r out, Q r out := by
  obtain ⟨code, i, h, _, _, _, _, hq⟩ := h
  exact ⟨_, _, hq [] [] 0 0 (by simp) (by simp) (Nat.zero_le _)⟩
def c_spec_l5DrawRight : ICode := (.seq (.reg [O0 6 (.alc [(.int .i64 0), (.int .i64 0), (.int .i64 0), (.int .i64 0), .snil])]) (.seq (.reg [O1 10 .mv 0, O1 11 .mv 1, O1 12 .mv 2, O3 13 (.call 187) 10 11 12, O0 7 (.alc [(.int .i64 0), (.int .i64 0), (.int .i64 0), .snil]), S2 (.st 4) 7 13]) (.seq (.reg [O1 14 (.ldn 4) 7, O1 15 (.call 98) 14, O0 8 (.alc [(.int .i64 0), (.int .i64 0), (.int .i64 0), (.int .i64 0), .snil]), S2 (.st 5) 8 15]) (.seq (.reg [O1 16 .mv 0, Ol 17 (.call 137) [.t 16, ci 4], O1 18 (.fadr 3) 8, S2 (.st 1) 18 17]) (.seq (.seq (.reg [Ol 9 .mv [ci 0]]) (.block 0 (.loop (.seq (.seq (.reg [O1 19 .mv 9, O1 20 (.fadr 4) 8, O1 21 .ld1 20, O1 22 .len 21, O2 23 (.bin .lss) 19 22]) (.cond (.t 23) .skip (.exit 0))) (.seq (.block 1 (.drw [O1 26 (.fadr 4) 8, O1 27 .ld1 26, O1 28 .mv 9, O1 29 .mv 0, O1 30 (.fadr 3) 8, O1 31 .ld1 30, Ol 32 (.bin .shl) [ci 1, .t 31], O2 33 (.call 137) 29 32, O2 34 (.iadr 4) 27 28, O1 35 (.fadr 3) 34, S2 (.st 1) 35 33] (unB [0, 1, 0, 0, 0, 16, 48, 120, 255, 511, 1023] 0) true true)) (.reg [O1 24 .mv 9, Ol 25 (.bin .add) [.t 24, ci 1], O1 9 .mv 25])))))) (.seq (.reg [O1 36 (.ldn 5) 8, S2 (.st 5) 6 36]) .ret))))))
theorem b_spec_l5DrawRight : Body Try.prog 193 37 c_spec_l5DrawRight [(.cn 6 5)] := body_mk Try.func193 (by kernel_rfl) (by decide)
def c_spec_l5DrawGen : ICode := (.seq (.reg [O0 4 (.alc [(.int .i64 0), (.int .i64 0), (.int .i64 0), (.int .i64 0), .snil])]) (.seq (.reg [O1 6 .mv 0, O1 7 .mv 0, Ol 8 (.call 137) [.t 7, ci 3], Ol 9 (.bin .add) [ci 1, .t 8], O1 10 .mv 1, O3 11 (.call 193) 6 9 10, O0 5 (.alc [(.int .i64 0), (.int .i64 0), (.int .i64 0), (.int .i64 0), .snil]), S2 (.st 5) 5 11]) (.seq (.seq (.reg [O1 12 .mv 0, Ol 13 (.call 137) [.t 12, ci 30]]) (.block 0 (.seq (.reg [Ol 15 (.bin .eql) [.t 13, ci 0], O1 14 .mv 15]) (.cond (.t 14) (.reg [O1 16 .mv 0, Ol 17 (.bsl 1) [ci (-1), ci 4, ci 5], O2 18 (.call 188) 16 17, O1 19 (.fadr 3) 5, S2 (.st 1) 19 18]) (.seq (.reg [Ol 21 (.bin .eql) [.t 13, ci 1], O1 20 .mv 21]) (.cond (.t 20) (.reg [O1 22 .mv 0, Ol 23 (.bsl 1) [ci 0, ci 31, ci 32], O2 24 (.call 188) 22 23, O1 25 (.fadr 1) 5, S2 (.st 1) 25 24]) (.seq (.reg [Ol 27 (.bin .eql) [.t 13, ci 2], O1 26 .mv 27]) (.cond (.t 26) (.drw [O1 28 (.fadr 4) 5, O1 29 .ld1 28, O1 30 .mv 0, Ol 31 (.call 137) [.t 30, ci 3], O1 32 (.bld [(.int .i64 0), (.int .i64 0), (.int .i64 0), (.int .i64 0)] [(3, 1)]) 31, O1 33 (.bslv 4) 32, O2 34 (.app 4 32) 29 33, O1 35 (.fadr 4) 5, S2 (.st 1) 35 34] (unB [0, 1, 0, 4, 12, 28, 63, 127, 255] 0) true true) (.seq (.reg [Ol 37 (.bin .eql) [.t 13, ci 3], O1 36 .mv 37]) (.cond (.t 36) (.seq (.reg [O1 38 (.fadr 4) 5, O1 39 .ld1 38, O1 40 .len 39, Ol 41 (.bin .gtr) [.t 40, ci 0]]) (.cond (.t 41) (.drw [O1 42 (.fadr 4) 5, O1 43 .ld1 42, O1 44 .mv 0, Ol 45 (.bsl 1) [ci (-1), ci 16, ci 15], O2 46 (.call 188) 44 45, Ol 47 (.iadr 4) [.t 43, ci 0], O1 48 (.fadr 3) 47, S2 (.st 1) 48 46] (unB [0, 1, 0, 0, 12, 31, 63, 127] 0) false true) .skip)) .skip)))))))))) (.seq (.reg [O1 49 (.ldn 5) 5, S2 (.st 5) 4 49]) .ret))))
theorem b_spec_l5DrawGen : Body Try.prog 146 50 c_spec_l5DrawGen [(.cn 4 5)] := body_mk Try.func146 (by kernel_rfl) (by decide)
theorem gedge_set {es : List GEdgeD} {i : Nat} {x : Int} (h : i < es.length) : (gedgeRows es).set (0 + ((i : Nat) : Int).toNat) (setCells (gedgeRow (es.getD i default)) 3 [.int .i64 x]) = gedgeRows (es.set i ⟨(es.getD i default).src, (es.getD i default).letter, (es.getD i default).dst, x⟩) := by
  rw [Int.toNat_natCast, Nat.zero_add]
  unfold gedgeRows
  rw [List.map_set]
  rfl
theorem gedge_at0 {es : List GEdgeD} {i : Nat} (h : i < es.length) : (gedgeRows es)[0 + ((i : Nat) : Int).toNat]? = some (gedgeRow (es.getD i default)) := by rw [Nat.zero_add]; exact gedge_at h
abbrev gBox0 : AObj := .box [.int .i64 0, .int .i64 0, .int .i64 0, .int .i64 0, .snil]
def GGenQ (code : List UInt8) (B : Nat) (Q : AV → List (Option AObj) → Prop) : Prop := ∀ (g : GenD) (i' : Nat) (h' : Int), g.edges.length ≤ B → i' ≤ code.length → Q (.agg (genRef 1 g)) [some (curO code i' h'), some (.arr 4 (gedgeRows g.edges))]
def GDrawRG : GFun := fun xs objs Q => ∃ (code : List UInt8) (i : Nat) (h l n : Int), xs = [.ptr 0 0 0, .int .i64 l, .int .i64 n] ∧ objs = [curO code i h] ∧ i ≤ code.length ∧ code.length ≤ 1048576 ∧ (1 ≤ l ∧ l ≤ 8) ∧ (1 ≤ n ∧ n ≤ 30) ∧ GGenQ code 2000 Q
theorem GDrawRG_mk {code : List UInt8} {i : Nat} {h l n : Int} {Q : AV → List (Option AObj) → Prop} (h1 : i ≤ code.length) (h2 : code.length ≤ 1048576) (h3 : 1 ≤ l ∧ l ≤ 8) (h4 : 1 ≤ n ∧ n ≤ 30)
    (hq : ∀ (g : GenD) (i' : Nat) (h' : Int), g.edges.length ≤ 2000 → i' ≤ code.length → Q (.agg (genRef 1 g)) [some (curO code i' h'), some (.arr 4 (gedgeRows g.edges))]) : GDrawRG [.ptr 0 0 0, .int .i64 l, .int .i64 n] [curO code i h] Q := ⟨code, i, h, l, n, rfl, rfl, h1, h2, h3, h4, hq⟩
theorem GDrawRightA_nv (xs : List AV) (objs : List AObj) (Q : AV → List (Option AObj) → Prop) (h : GDrawRightA xs objs Q) : ∃ r out, Q r out := by
  obtain ⟨code, i, h, l, n, _, _, _, _, _, hq⟩ := h
  exact ⟨_, _, hq zeroAuto 0 0 (by simp [zeroAuto]) (Nat.zero_le _)⟩
theorem genOf_any (a : AutoD) : ∃ g : GenD, g.edges.length ≤ 2000 ∧ g.sets ≤ 30 ∧ ∀ xs, xs = [.agg (autoRow a)] → RGenOf xs (.agg (genRef 0 g)) [.arr 4 (gedgeRows g.edges)] := by
  by_cases ha : AutoOk a
  · exact ⟨genOfD a, by rw [length_genOfD]; exact ha.2.1, by show (1 : Int) ≤ 30; decide, fun xs h => RGenOf_eq h ha⟩
  · exact ⟨zeroGen, by simp [zeroGen], by show (0 : Int) ≤ 30; decide, fun xs h => ⟨a, _, h, fun k => absurd k ha, fun _ => rfl, rfl, rfl⟩⟩
set_option maxHeartbeats 4000000 in
theorem s_spec_l5DrawRight : GenSound Try.prog 193 1 GDrawRG := by
  have hR : Rely Try.prog (ctxOf [(187, .gen 1 GDrawRightA), (98, .pure RGenOf), (137, .gen 1 GBelow)]) :=
    rely_cons b_spec_l4DrawRight.has s_spec_l4DrawRight (rely_cons b_spec_GenOf.has s_spec_GenOf (rely_cons b_spec_l1Below.has s_spec_l1Below (rely_nil mixed)))
  have hV : CtxNV (ctxOf [(187, .gen 1 GDrawRightA), (98, .pure RGenOf), (137, .gen 1 GBelow)]) := nv_gen GDrawRightA_nv (nv_pure (nv_gen GBelow_nv nvNil))
  refine gen_of_aw b_spec_l5DrawRight ?_
  rintro xs objs Q - ⟨code, i, h, l, n, rfl, rfl, h1, h2, h3, h4, hq⟩ -
  refine ⟨by simp, vc3_sound hR hV _ _ _ _ _ ?_⟩
  conv => whnf
  repeat' ((first | (refine And.intro (fun hb => ?_) (fun hb => ?_) <;> ((try simp only [SB, reduceCtorEq] at hb); try (exfalso; omega))) | refine G2 ?_ | rw [ints_at (by omega)] | rw [ints_at0 (by omega)] | rw [ints_at' (by omega) (by omega)] | refine G1 ?_ | ((refine ⟨GDrawRightA_mk (by omega) (by omega) h3 h4 (fun a i' h' ha hi' => ?_)⟩; obtain ⟨g0, hg0, _, hgo⟩ := genOf_any a)) | refine ⟨_, _, hgo _ (args_cons (snap_auto rfl) rfl), ?_⟩ | refine ⟨GBelow_mk (by omega) (by omega) (by omega) (fun x i' h' hx0 hx1 hi' => ?_)⟩ | fail) <;> conv => whnf)
  refine Lp.intro (α := List GEdgeD × Nat × Int × Nat) (fun c => c.1.length ≤ 2000 ∧ c.2.1 ≤ code.length ∧ c.2.2.2 ≤ c.1.length) (fun c => c.1.length - c.2.2.2)
    (fun c => [(0, .ptr 0 0 0), (6, .ptr 1 0 0), (8, .ptr 2 0 0), (9, .int .i64 ((c.2.2.2 : Nat) : Int))])
    (fun c => [some (curO code c.2.1 c.2.2.1), some gBox0, some (.box (genRef 3 ⟨g0.letters, g0.states, g0.start, x, c.1⟩)), some (.arr 4 (gedgeRows c.1))]) ?_ ?_
  · refine ⟨(g0.edges, i', h', 0), ⟨hg0, hi', Nat.zero_le _⟩, [some 0, some 1, some 5, some 4], rfl, rfl, And.intro (And.intro (.inl rfl) (And.intro (.inl rfl) (And.intro (.inl rfl) trivial))) (And.intro ⟨.inl rfl, .inl rfl, .inl rfl, .inl rfl, .inl rfl, trivial⟩ (And.intro ⟨.inl rfl, .inl rfl, .inl rfl, .inl rfl, rfl, trivial⟩ (And.intro ⟨rfl, rfl⟩ trivial))), ⟨rfl, rfl, rfl, .inl rfl, trivial⟩⟩
  rintro ⟨es, i2, h2', k⟩ ⟨hl, hi2, hk⟩
  dsimp only at hl hi2 hk ⊢
  have hil := length_gedgeRows es
  refine vc3_sound hR hV _ _ _ _ _ ?_
  by_cases hlt : k < es.length
  · have hat := gedge_at0 hlt
    have hset := fun y => gedge_set (x := y) hlt
    generalize es.getD k default = e at *
    conv => whnf
    repeat' ((first | (refine And.intro (fun hb => ?_) (fun hb => ?_) <;> ((try simp only [SB, reduceCtorEq] at hb); try (exfalso; omega))) | refine G2 ?_ | rw [ints_at (by omega)] | rw [ints_at0 (by omega)] | rw [ints_at' (by omega) (by omega)] | refine G1 ?_ | rw [hat] | refine ⟨GBelow_mk (by omega) (by omega) (shl_small (s := x) (by omega) (by omega)) (fun y i' h' hy0 hy1 hi' => ?_)⟩ | fail) <;> conv => whnf)
    refine ⟨(es.set k ⟨e.src, e.letter, e.dst, y⟩, i', h', k + 1), ⟨by rw [List.length_set]; exact hl, hi', by rw [List.length_set]; exact hlt⟩, by dsimp only; rw [List.length_set]; omega, [some 0, some 1, some 2, some 3], rfl, rfl, And.intro (And.intro (.inl rfl) (And.intro (.inl rfl) (And.intro (.inl rfl) trivial))) (And.intro ⟨.inl rfl, .inl rfl, .inl rfl, .inl rfl, .inl rfl, trivial⟩ (And.intro ⟨.inl rfl, .inl rfl, .inl rfl, .inl rfl, congrArg (AV.ref 3 0) (List.length_set).symm, trivial⟩ (And.intro ⟨rfl, hset y⟩ trivial))), ⟨rfl, rfl, rfl, .inl rfl, trivial⟩⟩
  · conv => whnf
    repeat' ((first | (refine And.intro (fun hb => ?_) (fun hb => ?_) <;> ((try simp only [SB, reduceCtorEq] at hb); try (exfalso; omega))) | refine G2 ?_ | rw [ints_at (by omega)] | rw [ints_at0 (by omega)] | rw [ints_at' (by omega) (by omega)] | refine G1 ?_ | fail) <;> conv => whnf)
    refine ⟨.inl rfl, ?_⟩
    conv => whnf
    refine And.intro (Nat.le_of_ble_eq_true rfl) ?_
    conv => whnf
    exact ⟨[some 0, some 3], .agg (genRef 1 ⟨g0.letters, g0.states, g0.start, x, es⟩), [some (curO code i2 h2'), some (.arr 4 (gedgeRows es))], ⟨rfl, And.intro (And.intro (.inl rfl) (And.intro (.inl rfl) (And.intro (.inl rfl) trivial))) (And.intro ⟨rfl, rfl⟩ trivial)⟩, ⟨.inl rfl, .inl rfl, .inl rfl, .inl rfl, rfl, trivial⟩, rfl, hq ⟨g0.letters, g0.states, g0.start, x, es⟩ i2 h2' hl hi2⟩
def GDrawGen : GFun := fun xs objs Q => ∃ (code : List UInt8) (i : Nat) (h n : Int), xs = [.ptr 0 0 0, .int .i64 n] ∧ objs = [curO code i h] ∧ i ≤ code.length ∧ code.length ≤ 1048576 ∧ (1 ≤ n ∧ n ≤ 30) ∧ GGenQ code 2001 Q
theorem GDrawGen_mk {code : List UInt8} {i : Nat} {h n : Int} {Q : AV → List (Option AObj) → Prop} (h1 : i ≤ code.length) (h2 : code.length ≤ 1048576) (h4 : 1 ≤ n ∧ n ≤ 30)
    (hq : ∀ (g : GenD) (i' : Nat) (h' : Int), g.edges.length ≤ 2001 → i' ≤ code.length → Q (.agg (genRef 1 g)) [some (curO code i' h'), some (.arr 4 (gedgeRows g.edges))]) : GDrawGen [.ptr 0 0 0, .int .i64 n] [curO code i h] Q := ⟨code, i, h, n, rfl, rfl, h1, h2, h4, hq⟩
theorem GDrawRG_nv (xs : List AV) (objs : List AObj) (Q : AV → List (Option AObj) → Prop) (h : GDrawRG xs objs Q) : ∃ r out, Q r out := by
  obtain ⟨code, i, h, l, n, _, _, _, _, _, _, hq⟩ := h
  exact ⟨_, _, hq zeroGen 0 0 (by simp [zeroGen]) (Nat.zero_le _)⟩
theorem app_gedge (M : List GEdgeD) (a b c d : Int) : List.take M.length (gedgeRows M) ++ [[.int .i64 a, .int .i64 b, .int .i64 c, .int .i64 d]] = gedgeRows (M ++ [⟨a, b, c, d⟩]) := by
  rw [List.take_of_length_le (by rw [length_gedgeRows]; exact Nat.le_refl _)]
  simp [gedgeRows, gedgeRow]
abbrev genL (_ : GenD × Nat × Int) : List (Nat × AV) := [(0, .ptr 0 0 0), (4, .ptr 1 0 0), (5, .ptr 2 0 0)]
abbrev genO (code : List UInt8) (a : GenD × Nat × Int) : List (Option AObj) := [some (curO code a.2.1 a.2.2), some gBox0, some (.box (genRef 3 a.1)), some (.arr 4 (gedgeRows a.1.edges))]
abbrev genI (code : List UInt8) (B : Nat) (a : GenD × Nat × Int) : Prop := a.1.edges.length ≤ B ∧ a.2.1 ≤ code.length
set_option maxHeartbeats 8000000 in
theorem s_spec_l5DrawGen : GenSound Try.prog 146 1 GDrawGen := by
  have hR : Rely Try.prog (ctxOf [(188, .gen 2 GPickInt), (137, .gen 1 GBelow), (193, .gen 1 GDrawRG)]) :=
    rely_cons b_spec_l1PickInt.has s_spec_l1PickInt (rely_cons b_spec_l1Below.has s_spec_l1Below (rely_cons b_spec_l5DrawRight.has s_spec_l5DrawRight (rely_nil mixed)))
  have hV : CtxNV (ctxOf [(188, .gen 2 GPickInt), (137, .gen 1 GBelow), (193, .gen 1 GDrawRG)]) := nv_gen GPickInt_nv (nv_gen GBelow_nv (nv_gen GDrawRG_nv nvNil))
  refine gen_of_aw b_spec_l5DrawGen ?_
  rintro xs objs Q - ⟨code, i, h, n, rfl, rfl, h1, h2, h4, hq⟩ -
  refine ⟨by simp, ?_⟩
  refine Aw.meet (α := Unit) (fun _ => True) (fun _ => [(0, .ptr 0 0 0), (1, .int .i64 n), (4, .ptr 1 0 0)]) (fun _ => [some (curO code i h), some gBox0]) ?_ ?_
  · refine vc2_sound hR _ _ _ _ _ ?_
    conv => whnf
    repeat' ((first | (refine And.intro (fun hb => ?_) (fun hb => ?_) <;> ((try simp only [SB, reduceCtorEq] at hb); try (exfalso; omega))) | refine G2 ?_ | rw [ints_at (by omega)] | rw [ints_at0 (by omega)] | rw [ints_at' (by omega) (by omega)] | refine G1 ?_ | fail) <;> conv => whnf)
    refine ⟨(), trivial, [some 0, some 1], rfl, rfl, ?_, ?_⟩
    · repeat' (first | exact trivial | exact rfl | exact Or.inl rfl | refine And.intro ?_ ?_)
    · repeat' (first
        | exact trivial
        | refine ⟨?_, ?_⟩
        | fail)
      all_goals first
        | with_reducible rfl
        | (conv => whnf
           try left
           conv => lhs; whnf
           first
             | rfl
             | exact congrArg (AV.int .i64) (by omega)
             | skip)
  rintro _ -
  refine Aw.meet (α := GenD × Nat × Int) (genI code 2000) genL (genO code) ?_ ?_
  · refine vc2_sound hR _ _ _ _ _ ?_
    conv => whnf
    repeat' ((first | (refine And.intro (fun hb => ?_) (fun hb => ?_) <;> ((try simp only [SB, reduceCtorEq] at hb); try (exfalso; omega))) | refine G2 ?_ | rw [ints_at (by omega)] | rw [ints_at0 (by omega)] | rw [ints_at' (by omega) (by omega)] | refine G1 ?_ | refine ⟨GBelow_mk (by omega) (by omega) (by omega) (fun x i' h' hx0 hx1 hi' => ?_)⟩ | refine ⟨GDrawRG_mk (by omega) (by omega) (by omega) h4 (fun g i' h' hg hi' => ?_)⟩ | fail) <;> conv => whnf)
    refine ⟨(g, i', h'), ⟨hg, hi'⟩, [some 0, some 1, some 3, some 2], rfl, rfl, ?_, ?_⟩
    · exact And.intro (And.intro (.inl rfl) (And.intro (.inl rfl) (And.intro (.inl rfl) trivial))) (And.intro ⟨.inl rfl, .inl rfl, .inl rfl, .inl rfl, .inl rfl, trivial⟩ (And.intro ⟨.inl rfl, .inl rfl, .inl rfl, .inl rfl, rfl, trivial⟩ (And.intro ⟨rfl, rfl⟩ trivial)))
    · repeat' (first
        | exact trivial
        | refine ⟨?_, ?_⟩
        | fail)
      all_goals first
        | with_reducible rfl
        | (conv => whnf
           try left
           conv => lhs; whnf
           first
             | rfl
             | exact congrArg (AV.int .i64) (by omega)
             | skip)
  rintro ⟨g, i1, h1'⟩ ⟨hg, hi1⟩
  dsimp only at hg hi1 ⊢
  refine Aw.meet (α := GenD × Nat × Int) (genI code 2001) genL (genO code) ?_ ?_
  · have hil := length_gedgeRows g.edges
    have hat0 : 0 < g.edges.length → (gedgeRows g.edges)[0 + Int.toNat 0]? = some (gedgeRow (g.edges.getD 0 default)) := fun h => gedge_at0 (i := 0) h
    have hset0 := fun y (h : 0 < g.edges.length) => gedge_set (es := g.edges) (i := 0) (x := y) h
    generalize hE : g.edges.getD 0 default = e at *
    refine vc3_sound hR hV _ _ _ _ _ ?_
    conv => whnf
    repeat' ((first | (refine And.intro (fun hb => ?_) (fun hb => ?_) <;> ((try simp only [SB, reduceCtorEq] at hb); try (exfalso; omega))) | refine G2 ?_ | rw [ints_at (by omega)] | rw [ints_at0 (by omega)] | rw [ints_at' (by omega) (by omega)] | refine G1 ?_ | rw [hat0 (by omega)] | refine ⟨GPickInt_mk (l := [-1, 4, 5]) (by omega) (by omega) (by simp) (by simp) (fun j i' h' hj hi' => ?_)⟩ | refine ⟨GPickInt_mk (l := [0, 31, 32]) (by omega) (by omega) (by simp) (by simp) (fun j i' h' hj hi' => ?_)⟩ | refine ⟨GPickInt_mk (l := [-1, 16, 15]) (by omega) (by omega) (by simp) (by simp) (fun j i' h' hj hi' => ?_)⟩ | refine ⟨GBelow_mk (by omega) (by omega) (by omega) (fun x i' h' hx0 hx1 hi' => ?_)⟩ | fail) <;> conv => whnf)
    · refine ⟨(⟨g.letters, g.states, g.start, ([-1, 4, 5] : List Int).getD j 0, g.edges⟩, i', h'), ⟨by dsimp only; omega, hi'⟩, [some 0, some 1, some 2, some 3], rfl, rfl, ?_, ?_⟩
      · exact And.intro (And.intro (.inl rfl) (And.intro (.inl rfl) (And.intro (.inl rfl) trivial))) (And.intro ⟨.inl rfl, .inl rfl, .inl rfl, .inl rfl, .inl rfl, trivial⟩ (And.intro ⟨.inl rfl, .inl rfl, .inl rfl, .inl rfl, rfl, trivial⟩ (And.intro ⟨rfl, rfl⟩ trivial)))
      · repeat' (first
          | exact trivial
          | refine ⟨?_, ?_⟩
          | fail)
        all_goals first
          | with_reducible rfl
          | (conv => whnf
             try left
             conv => lhs; whnf
             first
               | rfl
               | exact congrArg (AV.int .i64) (by omega)
               | skip)
    · refine ⟨(⟨g.letters, ([0, 31, 32] : List Int).getD j 0, g.start, g.sets, g.edges⟩, i', h'), ⟨by dsimp only; omega, hi'⟩, [some 0, some 1, some 2, some 3], rfl, rfl, ?_, ?_⟩
      · exact And.intro (And.intro (.inl rfl) (And.intro (.inl rfl) (And.intro (.inl rfl) trivial))) (And.intro ⟨.inl rfl, .inl rfl, .inl rfl, .inl rfl, .inl rfl, trivial⟩ (And.intro ⟨.inl rfl, .inl rfl, .inl rfl, .inl rfl, rfl, trivial⟩ (And.intro ⟨rfl, rfl⟩ trivial)))
      · repeat' (first
          | exact trivial
          | refine ⟨?_, ?_⟩
          | fail)
        all_goals first
          | with_reducible rfl
          | (conv => whnf
             try left
             conv => lhs; whnf
             first
               | rfl
               | exact congrArg (AV.int .i64) (by omega)
               | skip)
    · refine ⟨(⟨g.letters, g.states, g.start, g.sets, g.edges ++ [⟨0, 0, 0, x⟩]⟩, i', h'), ⟨by simp; omega, hi'⟩, [some 0, some 1, some 2, some 4], rfl, rfl, ?_, ?_⟩
      · exact And.intro (And.intro (.inl rfl) (And.intro (.inl rfl) (And.intro (.inl rfl) trivial))) (And.intro ⟨.inl rfl, .inl rfl, .inl rfl, .inl rfl, .inl rfl, trivial⟩ (And.intro ⟨.inl rfl, .inl rfl, .inl rfl, .inl rfl, congrArg (AV.ref 4 0) (by simp), trivial⟩ (And.intro ⟨rfl, app_gedge _ _ _ _ _⟩ trivial)))
      · repeat' (first
          | exact trivial
          | refine ⟨?_, ?_⟩
          | fail)
        all_goals first
          | with_reducible rfl
          | (conv => whnf
             try left
             conv => lhs; whnf
             first
               | rfl
               | exact congrArg (AV.int .i64) (by omega)
               | skip)
    · refine ⟨(⟨g.letters, g.states, g.start, g.sets, g.edges.set 0 ⟨e.src, e.letter, e.dst, ([-1, 16, 15] : List Int).getD j 0⟩⟩, i', h'), ⟨by simp; omega, hi'⟩, [some 0, some 1, some 2, some 3], rfl, rfl, ?_, ?_⟩
      · exact And.intro (And.intro (.inl rfl) (And.intro (.inl rfl) (And.intro (.inl rfl) trivial))) (And.intro ⟨.inl rfl, .inl rfl, .inl rfl, .inl rfl, .inl rfl, trivial⟩ (And.intro ⟨.inl rfl, .inl rfl, .inl rfl, .inl rfl, congrArg (AV.ref 3 0) (by simp), trivial⟩ (And.intro ⟨rfl, hset0 _ (by omega)⟩ trivial)))
      · repeat' (first
          | exact trivial
          | refine ⟨?_, ?_⟩
          | fail)
        all_goals first
          | with_reducible rfl
          | (conv => whnf
             try left
             conv => lhs; whnf
             first
               | rfl
               | exact congrArg (AV.int .i64) (by omega)
               | skip)
    · refine ⟨(g, i', h'), ⟨by dsimp only; omega, hi'⟩, [some 0, some 1, some 2, some 3], rfl, rfl, ?_, ?_⟩
      · exact And.intro (And.intro (.inl rfl) (And.intro (.inl rfl) (And.intro (.inl rfl) trivial))) (And.intro ⟨.inl rfl, .inl rfl, .inl rfl, .inl rfl, .inl rfl, trivial⟩ (And.intro ⟨.inl rfl, .inl rfl, .inl rfl, .inl rfl, rfl, trivial⟩ (And.intro ⟨rfl, rfl⟩ trivial)))
      · repeat' (first
          | exact trivial
          | refine ⟨?_, ?_⟩
          | fail)
        all_goals first
          | with_reducible rfl
          | (conv => whnf
             try left
             conv => lhs; whnf
             first
               | rfl
               | exact congrArg (AV.int .i64) (by omega)
               | skip)
    · refine ⟨(g, i', h'), ⟨by dsimp only; omega, hi'⟩, [some 0, some 1, some 2, some 3], rfl, rfl, ?_, ?_⟩
      · exact And.intro (And.intro (.inl rfl) (And.intro (.inl rfl) (And.intro (.inl rfl) trivial))) (And.intro ⟨.inl rfl, .inl rfl, .inl rfl, .inl rfl, .inl rfl, trivial⟩ (And.intro ⟨.inl rfl, .inl rfl, .inl rfl, .inl rfl, rfl, trivial⟩ (And.intro ⟨rfl, rfl⟩ trivial)))
      · repeat' (first
          | exact trivial
          | refine ⟨?_, ?_⟩
          | fail)
        all_goals first
          | with_reducible rfl
          | (conv => whnf
             try left
             conv => lhs; whnf
             first
               | rfl
               | exact congrArg (AV.int .i64) (by omega)
               | skip)
  clear hg hi1 g i1 h1'
  rintro ⟨g, i1, h1'⟩ ⟨hg, hi1⟩
  dsimp only at hg hi1 ⊢
  refine vc2_sound hR _ _ _ _ _ ?_
  conv => whnf
  repeat' ((first | (refine And.intro (fun hb => ?_) (fun hb => ?_) <;> ((try simp only [SB, reduceCtorEq] at hb); try (exfalso; omega))) | refine G2 ?_ | rw [ints_at (by omega)] | rw [ints_at0 (by omega)] | rw [ints_at' (by omega) (by omega)] | refine G1 ?_ | fail) <;> conv => whnf)
  refine ⟨.inl rfl, ?_⟩
  conv => whnf
  refine And.intro (Nat.le_of_ble_eq_true rfl) ?_
  conv => whnf
  exact ⟨[some 0, some 3], .agg (genRef 1 g), [some (curO code i1 h1'), some (.arr 4 (gedgeRows g.edges))],
    ⟨rfl, And.intro (And.intro (.inl rfl) (And.intro (.inl rfl) (And.intro (.inl rfl) trivial))) (And.intro ⟨rfl, rfl⟩ trivial)⟩, ⟨.inl rfl, .inl rfl, .inl rfl, .inl rfl, rfl, trivial⟩, rfl, hq g i1 h1' hg hi1⟩
end Go.Proofs.Ythanhknkoikbfaa.Ct
namespace Go.Proofs.Ythanhknkoikbfaa.Ct
open Go Go.Proofs Go.Proofs.Ythanhknkoikbfaa.Av Go.Proofs.Ythanhknkoikbfaa.Pl
def placeN (s l : List Int) : Nat → Nat
  | 0 => 0
  | i + 1 => nextN s l (placeN s l i)
def seqN (s l : List Int) (i : Nat) : Int := letN s l (placeN s l i)
theorem placeN_lt {s l : List Int} (hl : 0 < l.length) : ∀ i, placeN s l i < s.length + l.length
  | 0 => by show 0 < _; omega
  | i + 1 => nextN_lt (placeN_lt hl i) hl
structure Run (g : GenD) (w : Nat → Int) (q : Nat → Nat) (e : Nat → GEdgeD) : Prop where
  start : g.start.toNat.testBit (q 0) = true
  edge : ∀ i, e i ∈ g.edges
  letter : ∀ i, (e i).letter = w i
  src : ∀ i, (e i).src.toNat = q i
  dst : ∀ i, (e i).dst.toNat = q (i + 1)
  mark : ∀ b, b < g.sets.toNat → ∀ i, ∃ j, i ≤ j ∧ (e j).marks.toNat.testBit b = true
theorem lives_lives {G : GraphD} {src : List Nat} {all : Nat} : Lives G src all ↔ LivesR (fun x y m => (y, m) ∈ G.getD x []) (· ∈ src) all := by
  have hA : AdjR (fun x y m => (y, m) ∈ G.getD x []) = Adj G := rfl
  have hp : ∀ {p y : Nat} {m : Int}, (y, m) ∈ G.getD p [] → p < G.length := fun {p y m} h => by
    refine Classical.byContradiction fun hn => ?_
    rw [List.getD_eq_getElem?_getD, List.getElem?_eq_none (by omega)] at h
    simp at h
  unfold Lives LivesR
  rw [hA]
  constructor
  · rintro ⟨p, _, h1, ⟨⟨y, m⟩, h2, h3⟩, h4⟩
    refine ⟨p, h1, ⟨y, m, h2, h3⟩, fun b hb => ?_⟩
    obtain ⟨q, ⟨y, m⟩, g⟩ := h4 b hb
    exact ⟨q, y, m, g⟩
  · rintro ⟨p, h1, ⟨y, m, h2, h3⟩, h4⟩
    refine ⟨p, hp h2, h1, ⟨(y, m), h2, h3⟩, fun b hb => ?_⟩
    obtain ⟨q, y, m, g⟩ := h4 b hb
    exact ⟨q, (y, m), g⟩
theorem run_iff {g : GenD} (hg : GenOk g) {s l : List Int} (hl0 : 0 < l.length) : Lives (ptsG g.states.toNat s l g.edges) (bitL g.start.toNat 31) (2 ^ g.sets.toNat - 1) ↔ ∃ q e, Run g (seqN s l) q e := by
  have hst := hg.1.2.1
  have hfin : ∀ x y m, (y, m) ∈ (ptsG g.states.toNat s l g.edges).getD x [] → x < (s.length + l.length) * g.states.toNat := fun x y m h => by
    obtain ⟨h1, e, he, h2, h3, _⟩ := (step_pts hg).1 h
    have hi := gmem hg he
    unfold GIn at hi
    have := pt_lt (n := g.states.toNat) (v := x % g.states.toNat) h1 (by omega)
    rwa [pt_eq] at this
  have hbit : ∀ b, (2 ^ g.sets.toNat - 1).testBit b = true ↔ b < g.sets.toNat := fun b => by
    rw [Nat.testBit_two_pow_sub_one, decide_eq_true_eq]
  rw [lives_lives, lives_iff hfin]
  constructor
  · rintro ⟨x, m, h⟩
    have hpl : ∀ i, x i / g.states.toNat = placeN s l i := fun i => by
      induction i with
      | zero =>
        have hb := bit_lt (gstart_lt hg) (mem_bitL.1 h.start).2
        exact Nat.div_eq_of_lt hb
      | succ i ih =>
        obtain ⟨h1, e, he, h2, h3, h4, h5⟩ := (step_pts hg).1 (h.step i)
        have hi := gmem hg he
        unfold GIn at hi
        rw [h4, pt_div (by omega), ih]
        rfl
    have hex : ∀ i, ∃ e, e ∈ g.edges ∧ e.letter = seqN s l i ∧ e.src.toNat = x i % g.states.toNat ∧ e.dst.toNat = x (i + 1) % g.states.toNat ∧ m i = e.marks := fun i => by
      obtain ⟨h1, e, he, h2, h3, h4, h5⟩ := (step_pts hg).1 (h.step i)
      have hi := gmem hg he
      unfold GIn at hi
      refine ⟨e, he, ?_, h3, ?_, h5⟩
      · rw [h2, hpl]; rfl
      · rw [h4, pt_mod (by omega)]
    obtain ⟨e, he⟩ := Classical.axiomOfChoice hex
    refine ⟨fun i => x i % g.states.toNat, e, ⟨?_, fun i => (he i).1, fun i => (he i).2.1, fun i => (he i).2.2.1, fun i => (he i).2.2.2.1, fun b hb i => ?_⟩⟩
    · have hs := mem_bitL.1 h.start
      have hb := bit_lt (gstart_lt hg) hs.2
      show g.start.toNat.testBit (x 0 % g.states.toNat) = true
      rw [Nat.mod_eq_of_lt hb]
      exact hs.2
    · obtain ⟨j, hj, hm⟩ := h.mark b ((hbit b).2 hb) i
      refine ⟨j, hj, ?_⟩
      rw [← (he j).2.2.2.2]; exact hm
  · rintro ⟨q, e, h⟩
    have hq : ∀ i, q i < g.states.toNat := fun i => by
      have hi := gmem hg (h.edge i)
      unfold GIn at hi
      have := h.src i
      omega
    refine ⟨fun i => placeN s l i * g.states.toNat + q i, fun i => (e i).marks, ⟨?_, fun i => (step_pts hg).2 ?_, fun b hb i => h.mark b ((hbit b).1 hb) i⟩⟩
    · show placeN s l 0 * g.states.toNat + q 0 ∈ bitL g.start.toNat 31
      rw [show placeN s l 0 = 0 from rfl, Nat.zero_mul, Nat.zero_add, mem_bitL]
      have := hq 0
      exact ⟨by omega, h.start⟩
    · rw [pt_div (hq i), pt_mod (hq i)]
      refine ⟨placeN_lt hl0 i, e i, h.edge i, h.letter i, h.src i, ?_, rfl⟩
      rw [h.dst i]; rfl
theorem takesG_iff {g : GenD} {s l : List Int} : TakesG g s l ↔ GenOk g ∧ wordOk s l g.letters = true ∧ ∃ q e, Run g (seqN s l) q e := by
  unfold TakesG
  constructor
  · rintro ⟨h1, h2, h3⟩
    exact ⟨h1, h2, (run_iff h1 (let_ok h2).2.2.2).1 h3⟩
  · rintro ⟨h1, h2, h3⟩
    exact ⟨h1, h2, (run_iff h1 (let_ok h2).2.2.2).2 h3⟩

structure RunA (a : AutoD) (w : Nat → Int) (q : Nat → Nat) (e : Nat → EdgeD) : Prop where
  start : a.start.toNat.testBit (q 0) = true
  edge : ∀ i, e i ∈ a.edges
  letter : ∀ i, (e i).letter = w i
  src : ∀ i, (e i).src.toNat = q i
  dst : ∀ i, (e i).dst.toNat = q (i + 1)
  mark : ∀ i, ∃ j, i ≤ j ∧ (e j).mark = true
theorem markG_bit {e : EdgeD} : (markG e).marks.toNat.testBit 0 = true ↔ e.mark = true := by
  unfold markG
  cases e.mark <;> simp
theorem runA_iff {a : AutoD} {w : Nat → Int} : (∃ q e, Run (genOfD a) w q e) ↔ ∃ q e, RunA a w q e := by
  constructor
  · rintro ⟨q, e, h⟩
    have hex : ∀ i, ∃ x ∈ a.edges, markG x = e i := fun i => List.mem_map.1 (h.edge i)
    obtain ⟨f, hf⟩ := Classical.axiomOfChoice hex
    refine ⟨q, f, ⟨h.start, fun i => (hf i).1, fun i => ?_, fun i => ?_, fun i => ?_, fun i => ?_⟩⟩
    · have := h.letter i; rw [← (hf i).2] at this; exact this
    · have := h.src i; rw [← (hf i).2] at this; exact this
    · have := h.dst i; rw [← (hf i).2] at this; exact this
    · obtain ⟨j, hj, hb⟩ := h.mark 0 (by show 0 < (1 : Int).toNat; decide) i
      rw [← (hf j).2] at hb
      exact ⟨j, hj, markG_bit.1 hb⟩
  · rintro ⟨q, e, h⟩
    refine ⟨q, fun i => markG (e i), ⟨h.start, fun i => List.mem_map.2 ⟨_, h.edge i, rfl⟩, h.letter, h.src, h.dst, fun b hb i => ?_⟩⟩
    have hb0 : b < (1 : Int).toNat := hb
    obtain rfl : b = 0 := by
      have : (1 : Int).toNat = 1 := rfl
      omega
    obtain ⟨j, hj, hm⟩ := h.mark i
    exact ⟨j, hj, markG_bit.2 hm⟩
theorem takesA_iff {a : AutoD} {s l : List Int} : TakesA a s l ↔ AutoOk a ∧ wordOk s l a.letters = true ∧ ∃ q e, RunA a (seqN s l) q e := by
  unfold TakesA
  rw [takesG_iff, ← runA_iff]
  exact ⟨fun ⟨h1, _, h2, h3⟩ => ⟨h1, h2, h3⟩, fun ⟨h1, h2, h3⟩ => ⟨h1, genOf_ok h1, h2, h3⟩⟩
theorem edgeLess_iff {x y : EdgeD} : edgeLess x y = true ↔ x.src < y.src ∨ x.src = y.src ∧ (x.letter < y.letter ∨ x.letter = y.letter ∧ x.dst < y.dst) := by
  unfold edgeLess
  by_cases h1 : x.src = y.src
  · rw [if_neg (by simp [h1])]
    by_cases h2 : x.letter = y.letter
    · rw [if_neg (by simp [h2]), decide_eq_true_eq]
      omega
    · rw [if_pos h2, decide_eq_true_eq]
      omega
  · rw [if_pos h1, decide_eq_true_eq]
    omega
theorem edges_sorted {a : AutoD} (ha : AutoOk a) {i : Nat} : ∀ {j : Nat}, i < j → j < a.edges.length → edgeLess (a.edges.getD i default) (a.edges.getD j default) = true
  | 0, h, _ => by omega
  | j + 1, h, hj => by
    have h1 := (ha.2.2 (j + 1) hj).2 (by omega)
    rw [Nat.add_sub_cancel] at h1
    by_cases hij : i = j
    · subst hij; exact h1
    · have h2 := edges_sorted ha (i := i) (j := j) (by omega) (by omega)
      rw [edgeLess_iff] at h1 h2 ⊢
      omega
def StepR (a : AutoD) (s l : List Int) (st : List Int) (i : Nat) (e : EdgeD) : Prop := e ∈ a.edges ∧ e.src = st.getD i 0 ∧ e.letter = seqN s l i ∧ e.dst = st.getD (i + 1) 0
abbrev AE (a : AutoD) (p r : Nat) : Prop := EA a r p
noncomputable def farT (a : AutoD) (to : Nat) : List Int := farL (AE a) (· ∈ [to]) a.states.toNat
theorem farT_len {a : AutoD} {to : Nat} : (farT a to).length = a.states.toNat := length_farL
noncomputable def down (a : AutoD) (F : List Int) (X x k : Nat) : Nat := stepU a X x &&& atN F k F.length
inductive Pt (a : AutoD) (F : List Int) (b X0 : Nat) : Nat → Nat → List Nat → Prop
  | start : Pt a F b X0 b X0 []
  | step {k X x : Nat} {out : List Nat} : Pt a F b X0 (k + 1) X out → (∀ y, y < x → down a F X y k = 0) → down a F X x k ≠ 0 → Pt a F b X0 k (down a F X x k) (out ++ [x])
theorem Pt.len {a : AutoD} {F : List Int} {b X0 k X : Nat} {out : List Nat} (h : Pt a F b X0 k X out) : out.length + k = b := by
  induction h with
  | start => simp
  | step _ _ _ ih => simp; omega
theorem Pt.uniq {a : AutoD} {F : List Int} {b X0 k X : Nat} {out : List Nat} (h : Pt a F b X0 k X out) : ∀ {X' : Nat} {out' : List Nat}, Pt a F b X0 k X' out' → X = X' ∧ out = out' := by
  induction h with
  | start =>
    intro X' out' h'
    cases h' with
    | start => exact ⟨rfl, rfl⟩
    | step h _ _ => have := h.len; omega
  | step h1 h2 h3 ih =>
    intro X' out' h'
    cases h' with
    | start => have := h1.len; omega
    | @step _ X2 x2 out2 g1 g2 g3 =>
      obtain ⟨rfl, rfl⟩ := ih g1
      rename_i x _
      rcases Nat.lt_trichotomy x x2 with h | h | h
      · exact absurd (g2 _ h) h3
      · subst h; exact ⟨rfl, rfl⟩
      · exact absurd (h2 _ h) g3
def Far (a : AutoD) (to k X : Nat) : Prop := X ≠ 0 ∧ ∀ p, X.testBit p = true → p < a.states.toNat ∧ IsDist (AE a) (· ∈ [to]) p (k : Int)
theorem farT_at {a : AutoD} {to p : Nat} (h : p < a.states.toNat) : (farT a to).getD p 0 = distI (AE a) (· ∈ [to]) p := farL_at h
theorem isDist_of {A : Nat → Nat → Prop} {S : Nat → Prop} {p k : Nat} (h : distI A S p = (k : Int)) : IsDist A S p (k : Int) := by
  rcases dist_cases A S p with h1 | h1
  · omega
  · rw [h] at h1; exact h1
theorem bit_atN {F : List Int} {k : Int} {n p : Nat} : (atN F k n).testBit p = true ↔ p < n ∧ F.getD p 0 = k := testBit_bitsOf
theorem far_and {a : AutoD} {to k X : Nat} (h : X &&& atN (farT a to) k (farT a to).length ≠ 0) : Far a to k (X &&& atN (farT a to) k (farT a to).length) := by
  refine ⟨h, fun p hp => ?_⟩
  rw [Nat.testBit_and, Bool.and_eq_true, bit_atN, farT_len] at hp
  obtain ⟨_, h1, h2⟩ := hp
  rw [farT_at h1] at h2
  exact ⟨h1, isDist_of h2⟩
theorem bit_stepU {a : AutoD} {X q : Nat} {x : Int} : (stepU a X x).testBit q = true ↔ ∃ e ∈ a.edges, e.letter = x ∧ X.testBit e.src.toNat = true ∧ e.dst.toNat = q := by
  unfold stepU
  rw [bit_stepI]
  constructor
  · rintro ⟨j, h1, h2, h3, h4⟩; exact ⟨_, getD_mem' h1, h2, h3, h4⟩
  · rintro ⟨e, he, h2, h3, h4⟩
    obtain ⟨j, hj, rfl⟩ := mem_at he
    exact ⟨j, hj, h2, h3, h4⟩
theorem Pt.far {a : AutoD} {to b X0 k X : Nat} {out : List Nat} (h0 : Far a to b X0) (h : Pt a (farT a to) b X0 k X out) : Far a to k X := by
  cases h with
  | start => exact h0
  | step _ _ h3 => exact far_and h3
def rowsL (Ls : List (List Int)) : List (List AV) := Ls.map fun l => [.val (ints l)]
@[simp] theorem length_rowsL (Ls : List (List Int)) : (rowsL Ls).length = Ls.length := by simp [rowsL]
def flat (Ls : List (List Int)) (i : Nat) : List Int := (Ls.take i).flatten
/-! ### the word -/
def EWay (a : AutoD) : Nat → List EdgeD → Nat → Prop
  | p, [], q => p = q
  | p, e :: es, q => e ∈ a.edges ∧ e.src.toNat = p ∧ EWay a e.dst.toNat es q
theorem EWay.snoc {a : AutoD} {e : EdgeD} {q : Nat} : ∀ {es : List EdgeD} {p : Nat}, EWay a p es e.src.toNat → e ∈ a.edges → e.dst.toNat = q → EWay a p (es ++ [e]) q
  | [], p, h, he, hq => ⟨he, h.symm, hq⟩
  | x :: es, p, h, he, hq => ⟨h.1, h.2.1, EWay.snoc h.2.2 he hq⟩
theorem Pt.way {a : AutoD} {F : List Int} {b X0 k X : Nat} {out : List Nat} (h : Pt a F b X0 k X out) : ∀ q, X.testBit q = true → ∃ p es, X0.testBit p = true ∧ EWay a p es q ∧ es.map (·.letter) = natsI out := by
  induction h with
  | start => exact fun q hq => ⟨q, [], hq, rfl, rfl⟩
  | @step k X x out h1 h2 h3 ih =>
    intro q hq
    unfold down at hq
    rw [Nat.testBit_and, Bool.and_eq_true, bit_stepU] at hq
    obtain ⟨⟨e, he, g1, g2, g3⟩, _⟩ := hq
    obtain ⟨p, es, k1, k2, k3⟩ := ih _ g2
    exact ⟨p, es ++ [e], k1, k2.snoc he g3, by simp [k3, g1, natsI]⟩
theorem pair_sorted {a : AutoD} (ha : AutoOk a) : a.edges.Pairwise fun x y => edgeLess x y = true := by
  rw [List.pairwise_iff_getElem]
  intro i j hi hj hij
  have := edges_sorted ha hij hj
  rwa [List.getD_eq_getElem?_getD, List.getD_eq_getElem?_getD, List.getElem?_eq_getElem hi, List.getElem?_eq_getElem hj] at this


section
variable (a : AutoD) (s l : List Int)
end
variable {a : AutoD} {s l : List Int}
end Go.Proofs.Ythanhknkoikbfaa.Ct
namespace Go.Proofs.Ythanhknkoikbfaa.Ct
open Go Go.Proofs Go.Proofs.Ythanhknkoikbfaa.Av Go.Proofs.Ythanhknkoikbfaa.Pl
noncomputable def farD (a : AutoD) (s l : List Int) (t : Nat) : List Int := (List.range ((s.length + l.length) * a.states.toNat)).map (toD (PA (genOfD a) s l) t)
@[simp] theorem length_farD (a : AutoD) (s l : List Int) (t : Nat) : (farD a s l t).length = (s.length + l.length) * a.states.toNat := by simp [farD]
theorem RAutoOk_b {xs : List AV} {a : AutoD} {b : Bool} (hx : xs = [.agg (autoRow a)]) (h : decide (AutoOk a) = b) : RAutoOk xs (.bool b) [] := ⟨a, hx, by rw [h], rfl⟩
section
variable {A : Nat → Nat → Prop} {D : Nat → Int} {n P M k m : Nat}
noncomputable def outM (D : Nat → Int) (M k m : Nat) : List Int := (List.range M).map fun x => if D x < (if x < m then ((k + 1 : Nat) : Int) else (k : Int)) then D x else -1
@[simp] theorem length_outM (D : Nat → Int) (M k m : Nat) : (outM D M k m).length = M := by simp [outM]
noncomputable def seenM (D : Nat → Int) (n P k p : Nat) : List Nat := (List.range P).map fun q => if q < p then seenK D n (k + 1) q else seenK D n k q
noncomputable def nextM (D : Nat → Int) (n P k p : Nat) : List Nat := (List.range P).map fun q => if q < p then lvl D n k q else 0
noncomputable def frontK (D : Nat → Int) (n P k : Nat) : List Nat := (List.range P).map (lvl D n k)
@[simp] theorem length_seenM (D : Nat → Int) (n P k p : Nat) : (seenM D n P k p).length = P := by simp [seenM]
@[simp] theorem length_nextM (D : Nat → Int) (n P k p : Nat) : (nextM D n P k p).length = P := by simp [nextM]
@[simp] theorem length_frontK (D : Nat → Int) (n P k : Nat) : (frontK D n P k).length = P := by simp [frontK]
theorem map_set {f g : Nat → Nat} {P p v : Nat} (hv : v = g p) (h : ∀ q, q ≠ p → f q = g q) : ((List.range P).map f).set p v = (List.range P).map g := by
  subst hv
  apply List.ext_getElem (by simp)
  intro x h1 h2
  simp only [List.getElem_set, List.getElem_map, List.getElem_range]
  by_cases hx : p = x
  · rw [if_pos hx, hx]
  · rw [if_neg hx]; exact h x (fun e => hx e.symm)
end
section
variable {g : GenD} {s l : List Int} {t k p : Nat}
noncomputable def farG (g : GenD) (s l : List Int) (t : Nat) : List Int := (List.range ((s.length + l.length) * g.states.toNat)).map (toD (PA g s l) t)
end

@[simp] theorem length_farG (g : GenD) (s l : List Int) (t : Nat) : (farG g s l t).length = (s.length + l.length) * g.states.toNat := by simp [farG]
theorem RTakesA_b {xs : List AV} {a : AutoD} {s l : List Int} {b : Bool} (hx : xs = [.agg (autoRow a), wordV s l]) (h : b = true ↔ TakesA a s l) : RTakesA xs (.bool b) [] := ⟨a, s, l, b, hx, h, rfl, rfl⟩
def ROnlyN (xs : List AV) (r : AV) (objs : List AObj) : Prop := ∃ i : Int, xs = [.int .i64 i] ∧ 0 ≤ i ∧ i ≤ 62 ∧ r = .int .i64 ((2 ^ i.toNat : Nat) : Int) ∧ objs = []
theorem ROnlyN_is {i : Int} {p : Nat} (h0 : 0 ≤ i) (h1 : i ≤ 62) (h : p = 2 ^ i.toNat) : ROnlyN [.int .i64 i] (.int .i64 ((p : Nat) : Int)) [] := ⟨i, rfl, h0, h1, by rw [h], rfl⟩
theorem n_impl_only : PureSound Try.prog 141 ROnlyN := fun w own xs vs r objs hr ⟨i, hx, h0, h1, h2, h3⟩ => s_impl_only w own xs vs r objs hr ⟨i, hx, h0, h1, by rw [h2, natPow], h3⟩
theorem RHas_st {xs : List AV} {X v : Nat} (hx : xs = [.int .i64 ((X : Nat) : Int), .int .i64 ((v : Nat) : Int)]) (h : X < 2 ^ 31) (h1 : v ≤ 30) : RHas xs (.bool (X.testBit v)) [] :=
  ⟨X, v, hx, h, by omega, by omega, by rw [Int.toNat_natCast], rfl⟩
theorem keep_app {M : List EdgeD} {x y z : Int} {b : Bool} : List.take M.length (edgeRows M) ++ [[.int .i64 x, .int .i64 y, .int .i64 z, .bool b]] = edgeRows (M ++ [⟨x, y, z, b⟩]) := by
  rw [List.take_of_length_le (by rw [length_edgeRows]; exact Nat.le_refl _)]
  simp [edgeRows, edgeRow]
def c_impl_compareGEdges : ICode := (.seq (.reg [O1 2 (.box 4) 0, O1 3 (.box 4) 1, Ol 4 .mv [ci 0]]) (.seq (.drw [O1 5 (.fadr 0) 2, O1 6 .ld1 5, O1 7 (.fadr 0) 3, O1 8 .ld1 7, O2 9 (.call 200) 6 8, O1 10 (.fadr 1) 2, O1 11 .ld1 10, O1 12 (.fadr 1) 3, O1 13 .ld1 12, O2 14 (.call 200) 11 13, O1 15 (.fadr 2) 2, O1 16 .ld1 15, O1 17 (.fadr 2) 3, O1 18 .ld1 17, O2 19 (.call 200) 16 18, O3 20 (.bsl 1) 9 14 19, O1 21 (.call 199) 20, O1 4 .mv 21] (unB [0, 1, 0, 4, 15, 0, 32, 0, 128, 511, 0, 1024, 0, 4096, 16383, 32767, 65535, 131071] 0) true true) .ret))
theorem b_impl_compareGEdges : Body Try.prog 196 22 c_impl_compareGEdges [(.t 4)] := body_mk Try.func196 (by kernel_rfl) (by decide)
def c_impl_GenOk : ICode := (.seq (.reg [O1 1 (.box 5) 0, Ol 2 .mv [cb false]]) (.seq (.seq (.reg [O1 5 (.fadr 0) 1, O1 6 .ld1 5, O1 7 (.fadr 1) 1, O1 8 .ld1 7, O1 9 (.fadr 2) 1, O1 10 .ld1 9, O3 11 (.call 156) 6 8 10, O1 12 .not 11, O1 13 .mv 12, Og 14 (.fadr 3) [.t 1] 13 false, Og 15 .ld1 [.t 14] 13 false, Og 16 (.call 130) [.t 15, ci 0, ci 4] 13 false, Og 17 .not [.t 16] 13 false, Ol 18 .pick [.t 13, cb true, .t 17], O1 19 .mv 18, Og 20 (.fadr 4) [.t 1] 19 false, Og 21 .ld1 [.t 20] 19 false, Og 22 .len [.t 21] 19 false, Og 23 (.bin .gtr) [.t 22, ci 2000] 19 false, Ol 24 .pick [.t 19, cb true, .t 23]]) (.cond (.t 24) (.seq (.reg [Ol 2 .mv [cb false]]) .ret) .skip)) (.seq (.seq (.reg [O1 25 (.fadr 4) 1, O1 26 .ld1 25, O1 27 .len 26, Ol 28 .mv [ci 0]]) (.block 0 (.loop (.seq (.reg [O2 29 (.bin .lss) 28 27]) (.seq (.cond (.t 29) .skip (.exit 0)) (.seq (.block 1 (.seq (.reg [O1 30 .mv 28, O2 31 (.iadr 4) 26 28, O1 32 (.ldn 4) 31, O0 4 (.alc [(.int .i64 0), (.int .i64 0), (.int .i64 0), (.int .i64 0)]), O1 3 .mv 30, S2 (.st 4) 4 32]) (.seq (.seq (.reg [O1 33 (.fadr 0) 4, O1 34 .ld1 33, O1 35 (.fadr 1) 1, O1 36 .ld1 35, Ol 37 (.bin .sub) [.t 36, ci 1], Ol 38 (.call 130) [.t 34, ci 0, .t 37], O1 39 .not 38, O1 40 .mv 39, Og 41 (.fadr 2) [.t 4] 40 false, Og 42 .ld1 [.t 41] 40 false, Og 43 (.fadr 1) [.t 1] 40 false, Og 44 .ld1 [.t 43] 40 false, Og 45 (.bin .sub) [.t 44, ci 1] 40 false, Og 46 (.call 130) [.t 42, ci 0, .t 45] 40 false, Og 47 .not [.t 46] 40 false, Ol 48 .pick [.t 40, cb true, .t 47], O1 49 .mv 48, Og 50 (.fadr 1) [.t 4] 49 false, Og 51 .ld1 [.t 50] 49 false, Og 52 (.fadr 0) [.t 1] 49 false, Og 53 .ld1 [.t 52] 49 false, Og 54 (.bin .sub) [.t 53, ci 1] 49 false, Og 55 (.call 130) [.t 51, ci 0, .t 54] 49 false, Og 56 .not [.t 55] 49 false, Ol 57 .pick [.t 49, cb true, .t 56]]) (.cond (.t 57) (.seq (.reg [Ol 2 .mv [cb false]]) .ret) .skip)) (.seq (.drw [O1 58 (.fadr 3) 4, O1 59 .ld1 58, O1 60 (.fadr 3) 1, O1 61 .ld1 60, O1 62 (.call 141) 61, Ol 63 (.bin .sub) [.t 62, ci 1], Ol 64 (.call 130) [.t 59, ci 0, .t 63], O1 65 .not 64, O1 66 .mv 65, Og 67 .mv [.t 3] 66 false, Og 68 (.bin .gtr) [.t 67, ci 0] 66 false, Og 69 .mv [.t 68] 66 false, Og 70 (.fadr 4) [.t 1] 69 true, Og 71 .ld1 [.t 70] 69 true, Og 72 .mv [.t 3] 69 true, Og 73 (.bin .sub) [.t 72, ci 1] 69 true, Og 74 (.iadr 4) [.t 71, .t 73] 69 true, Og 75 (.ldn 4) [.t 74] 69 true, Og 76 (.ldn 4) [.t 4] 69 true, Og 77 (.call 196) [.t 75, .t 76] 69 true, Og 78 (.bin .geq) [.t 77, ci 0] 69 true, Og 79 .pick [.t 69, .t 78, cb false] 66 false, Ol 80 .pick [.t 66, cb true, .t 79]] (unB [0, 1, 0, 4, 12, 28, 63, 127, 255, 511, 1023, 2047, 4095, 8191, 4095, 20479, 65535, 131071, 4095, 524287, 1048575, 2097151, 4194303] 0) true true) (.cond (.t 80) (.seq (.reg [Ol 2 .mv [cb false]]) .ret) .skip))))) (.reg [Ol 81 (.bin .add) [.t 28, ci 1], O1 28 .mv 81]))))))) (.seq (.reg [Ol 2 .mv [cb true]]) .ret))))
theorem b_impl_GenOk : Body Try.prog 149 82 c_impl_GenOk [(.t 2)] := body_mk Try.func149 (by kernel_rfl) (by decide)
def c_impl_GenTakes : ICode := (.seq (.reg [O1 2 (.box 5) 0, O1 3 (.box 2) 1, Ol 4 .mv [cb false]]) (.seq (.seq (.reg [O1 5 (.ldn 5) 2, O1 6 (.call 149) 5, O1 7 .not 6, O1 8 .mv 7, Og 9 (.ldn 2) [.t 3] 8 false, Og 10 (.fadr 0) [.t 2] 8 false, Og 11 .ld1 [.t 10] 8 false, Og 12 (.call 85) [.t 9, .t 11] 8 false, Og 13 .not [.t 12] 8 false, Ol 14 .pick [.t 8, cb true, .t 13]]) (.cond (.t 14) (.seq (.reg [Ol 4 .mv [cb false]]) .ret) .skip)) (.seq (.drw [O1 15 (.fadr 1) 2, O1 16 .ld1 15, O1 17 (.fadr 4) 2, O1 18 .ld1 17, O1 19 (.ldn 2) 3, O3 20 (.call 101) 16 18 19, O1 21 (.fadr 2) 2, O1 22 .ld1 21, O1 23 (.call 80) 22, O1 24 (.fadr 3) 2, O1 25 .ld1 24, O1 26 (.call 141) 25, Ol 27 (.bin .sub) [.t 26, ci 1], O3 28 (.call 118) 20 23 27, O1 4 .mv 28] (unB [0, 1, 0, 4, 0, 31, 0, 64, 255, 0, 512, 2047, 4095, 8191, 16383] 0) true true) .ret)))
theorem b_impl_GenTakes : Body Try.prog 65 29 c_impl_GenTakes [(.t 4)] := body_mk Try.func65 (by kernel_rfl) (by decide)
def gE (x : GEdgeD) : EdgeD := ⟨x.src, x.letter, x.dst, false⟩
def RCompareG (xs : List AV) (r : AV) (objs : List AObj) : Prop := ∃ x y, xs = [.agg (gedgeRow x), .agg (gedgeRow y)] ∧ r = .int .i64 (cmpE (gE x) (gE y)) ∧ objs = []
theorem RCompareG_mk {x y : GEdgeD} : RCompareG [.agg (gedgeRow x), .agg (gedgeRow y)] (.int .i64 (cmpE (gE x) (gE y))) [] := ⟨x, y, rfl, rfl, rfl⟩
theorem s_impl_compareGEdges : PureSound Try.prog 196 RCompareG := by
  have hR : Rely Try.prog (ctxOf [(200, .pure RCompare), (199, .pure ROr)]) := rely_cons b_cmp_Compare_int.has s_cmp_Compare (rely_cons b_cmp_Or_int.has s_cmp_Or (rely_nil mixed))
  refine pure_of_aw b_impl_compareGEdges ?_
  rintro xs r objs ⟨x, y, rfl, rfl, rfl⟩ -
  refine ⟨by simp, vc2_sound hR _ _ _ _ _ ?_⟩
  conv => whnf
  repeat' ((first | contradiction | (refine And.intro (fun hb => ?_) (fun hb => ?_) <;> first | contradiction | ((try simp only [SB, reduceCtorEq] at hb); try (exfalso; first | contradiction | omega))) | refine G2 ?_ | rw [ints_at (by omega)] | rw [ints_at0 (by omega)] | rw [ints_at' (by omega) (by omega)] | refine G1 ?_ | refine ⟨_, _, RCompare_mk, ?_⟩ | fail) <;> conv => whnf)
  refine ⟨_, _, ROr_eq (l := [cmpI x.src y.src, cmpI x.letter y.letter, cmpI x.dst y.dst]) rfl (by simp), ?_⟩
  conv => whnf
  repeat' ((first | contradiction | (refine And.intro (fun hb => ?_) (fun hb => ?_) <;> first | contradiction | ((try simp only [SB, reduceCtorEq] at hb); try (exfalso; first | contradiction | omega))) | refine G2 ?_ | rw [ints_at (by omega)] | rw [ints_at0 (by omega)] | rw [ints_at' (by omega) (by omega)] | refine G1 ?_ | fail) <;> conv => whnf)
  refine ⟨.inl rfl, ?_⟩
  conv => whnf
  refine ⟨[], ⟨rfl, trivial⟩, ?_, rfl, rfl⟩
  conv => whnf
  left
  conv => lhs; whnf
  rfl
set_option maxHeartbeats 4000000 in
theorem s_impl_GenOk : PureSound Try.prog 149 RGenOk := by
  have hR : Rely Try.prog (ctxOf [(130, .pure RIn), (156, .pure RHeadOk), (141, .pure ROnlyN), (196, .pure RCompareG)]) :=
    rely_cons b_impl_inRange.has s_impl_inRange (rely_cons b_impl_headOk.has s_impl_headOk (rely_cons b_impl_only.has n_impl_only (rely_cons b_impl_compareGEdges.has s_impl_compareGEdges (rely_nil mixed))))
  refine pure_of_aw b_impl_GenOk ?_
  rintro xs r objs ⟨g, rfl, rfl, rfl⟩ -
  have hle := length_gedgeRows g.edges
  refine ⟨by simp, vc2_sound hR _ _ _ _ _ ?_⟩
  conv => whnf
  repeat' ((first | contradiction | (refine And.intro (fun hb => ?_) (fun hb => ?_) <;> first | contradiction | ((try simp only [SB, reduceCtorEq] at hb); try (exfalso; first | contradiction | omega))) | refine G2 ?_ | rw [ints_at (by omega)] | rw [ints_at0 (by omega)] | rw [ints_at' (by omega) (by omega)] | refine G1 ?_ | refine ⟨_, _, RHeadOk_mk, ?_⟩ | refine ⟨_, _, RIn_mk, ?_⟩ | fail) <;> conv => whnf)
  rotate_left
  · have hh : HeadOk g.letters g.states g.start := by assumption
    have hset : 0 ≤ g.sets ∧ g.sets ≤ 4 := by assumption
    obtain ⟨g1, g2, g3⟩ := hh
    obtain ⟨P, hP⟩ : ∃ P, P = 2 ^ g.sets.toNat := ⟨_, rfl⟩
    have hP1 : 1 ≤ P ∧ P ≤ 2 ^ 4 := ⟨by rw [hP]; exact Nat.one_le_two_pow, by rw [hP]; exact Nat.pow_le_pow_right (by decide) (by omega)⟩
    have hPi : ((P : Nat) : Int) = 2 ^ g.sets.toNat := by rw [hP, Int.natCast_pow]; rfl
    refine Lp.intro (α := Nat) (fun i => i ≤ g.edges.length ∧ ∀ j, j < i → GAt g j) (fun i => g.edges.length - i) (fun i => [(1, .ptr 0 0 0), (26, .val (gedgeRows g.edges)), (27, .int .i64 (gedgeRows g.edges).length), (28, .int .i64 i)]) (fun _ => [some (.box (genRow g))]) ?_ ?_
    · refine ⟨0, ⟨by omega, by omega⟩, [some 0], rfl, rfl, ?_, ?_⟩
      · repeat' (first | exact trivial | exact rfl | exact Or.inl rfl | refine And.intro ?_ ?_)
      · repeat' (first
          | exact trivial
          | refine ⟨?_, ?_⟩
          | fail)
        all_goals first
          | with_reducible rfl
          | (conv => whnf
             try left
             conv => lhs; whnf
             first
               | rfl
               | exact congrArg (AV.int .i64) (by omega)
               | skip)
    · rintro i ⟨hi, hall⟩
      refine vc2_sound hR _ _ _ _ _ ?_
      conv => whnf
      repeat' ((first | contradiction | (refine And.intro (fun hb => ?_) (fun hb => ?_) <;> first | contradiction | ((try simp only [SB, reduceCtorEq] at hb); try (exfalso; first | contradiction | omega))) | refine G2 ?_ | rw [ints_at (by omega)] | rw [ints_at0 (by omega)] | rw [ints_at' (by omega) (by omega)] | refine G1 ?_ | rw [gedge_at (by omega)] | rw [gedge_prev (by omega) (by omega)] | refine ⟨_, _, RIn_mk, ?_⟩ | refine ⟨_, _, ROnlyN_is (p := P) (by omega) (by omega) hP, ?_⟩ | refine ⟨_, _, RCompareG_mk (x := g.edges.getD (i - 1) default) (y := g.edges.getD i default), ?_⟩ | fail) <;> conv => whnf)
      all_goals first
        | (refine ⟨i + 1, ⟨by omega, fun j hj => ?_⟩, by omega, [some 0], rfl, rfl, ⟨⟨.inl rfl, .inl rfl, .inl rfl, .inl rfl, .inl rfl, trivial⟩, trivial⟩, ⟨rfl, .inl rfl, .inl rfl, .inl rfl, trivial⟩⟩
           by_cases hji : j = i
           · subst hji
             have hm : 0 ≤ (g.edges.getD j default).marks ∧ (g.edges.getD j default).marks ≤ ((P : Nat) : Int) - 1 := by assumption
             refine ⟨⟨by assumption, by assumption, by assumption, by omega, by omega, by rw [← hPi]; omega⟩, fun _ => ?_⟩
             first
             | omega
             | (rw [show gLess (g.edges.getD (j - 1) default) (g.edges.getD j default) = edgeLess (gE (g.edges.getD (j - 1) default)) (gE (g.edges.getD j default)) from rfl, ← Bool.not_eq_false]
                intro hf
                have := cmpE_less.2 hf
                omega)
           · exact hall j (by omega))
        | (refine ⟨.inl rfl, ?_⟩
           conv => whnf
           refine ⟨[], ⟨rfl, trivial⟩, ?_, rfl, rfl⟩
           conv => whnf
           left
           conv => lhs; whnf
           refine congrArg AV.bool (decide_eq_true ?_).symm
           exact ⟨⟨by assumption, by assumption, by assumption⟩, hset, by omega, fun j hj => hall j (by omega)⟩)
        | (refine ⟨.inl rfl, ?_⟩
           conv => whnf
           refine ⟨[], ⟨rfl, trivial⟩, ?_, rfl, rfl⟩
           conv => whnf
           left
           conv => lhs; whnf
           refine congrArg AV.bool (decide_eq_false ?_).symm
           rintro ⟨_, _, _, g5⟩
           obtain ⟨⟨k1, k2, k3, k4⟩, k5⟩ := g5 i (by omega)
           first
           | contradiction
           | (rw [← hPi] at k4; omega)
           | (have k := k5 (by omega)
              rw [show gLess (g.edges.getD (i - 1) default) (g.edges.getD i default) = edgeLess (gE (g.edges.getD (i - 1) default)) (gE (g.edges.getD i default)) from rfl, cmpE_less.1 (by assumption)] at k
              cases k))
  all_goals
    refine ⟨.inl rfl, ?_⟩
    conv => whnf
    refine ⟨[], ⟨rfl, trivial⟩, ?_, rfl, rfl⟩
    conv => whnf
    left
    conv => lhs; whnf
    refine congrArg AV.bool (decide_eq_false ?_).symm
    rintro ⟨g1, g4, g5, g6⟩
    first | contradiction | omega
theorem RGenOk_b {xs : List AV} {g : GenD} {b : Bool} (hx : xs = [.agg (genRow g)]) (h : decide (GenOk g) = b) : RGenOk xs (.bool b) [] := ⟨g, hx, by rw [h], rfl⟩
set_option maxHeartbeats 4000000 in
theorem s_impl_GenTakes : PureSound Try.prog 65 RTakesG := by
  have hR : Rely Try.prog (ctxOf [(149, .pure RGenOk), (85, .pure RWordOk), (141, .pure ROnlyN), (101, .pure RPoints), (80, .pure RSetList), (118, .pure RLives)]) :=
    rely_cons b_impl_GenOk.has s_impl_GenOk (rely_cons b_impl_WordOk.has s_impl_WordOk (rely_cons b_impl_only.has n_impl_only (rely_cons b_impl_pointsBy.has s_impl_pointsBy (rely_cons b_impl_SetList.has s_impl_SetList (rely_cons b_impl_graph_lives.has s_impl_lives (rely_nil mixed))))))
  refine pure_of_aw b_impl_GenTakes ?_
  rintro xs r objs ⟨g, s, l, b, rfl, hb0, rfl, rfl⟩ -
  refine ⟨by simp, vc2_sound hR _ _ _ _ _ ?_⟩
  by_cases hg : GenOk g
  rotate_left
  · have hg' : decide (GenOk g) = false := decide_eq_false hg
    obtain rfl : b = false := Bool.eq_false_iff.2 fun h => hg (hb0.1 h).1
    conv => whnf
    repeat' ((first | contradiction | (refine And.intro (fun hb => ?_) (fun hb => ?_) <;> first | contradiction | ((try simp only [SB, reduceCtorEq] at hb); try (exfalso; first | contradiction | omega))) | refine G2 ?_ | rw [ints_at (by omega)] | rw [ints_at0 (by omega)] | rw [ints_at' (by omega) (by omega)] | refine G1 ?_ | refine ⟨_, _, RGenOk_b rfl hg', ?_⟩ | fail) <;> conv => whnf)
    refine ⟨.inl rfl, ?_⟩
    conv => whnf
    refine ⟨[], ⟨rfl, trivial⟩, ?_, rfl, rfl⟩
    conv => whnf
    left
    conv => lhs; whnf
  have hg' : decide (GenOk g) = true := decide_eq_true hg
  cases hw : wordOk s l g.letters
  · obtain rfl : b = false := Bool.eq_false_iff.2 fun h => by
      have := (hb0.1 h).2.1
      rw [hw] at this
      cases this
    conv => whnf
    repeat' ((first | contradiction | (refine And.intro (fun hb => ?_) (fun hb => ?_) <;> first | contradiction | ((try simp only [SB, reduceCtorEq] at hb); try (exfalso; first | contradiction | omega))) | refine G2 ?_ | rw [ints_at (by omega)] | rw [ints_at0 (by omega)] | rw [ints_at' (by omega) (by omega)] | refine G1 ?_ | refine ⟨_, _, RGenOk_b rfl hg', ?_⟩ | refine ⟨_, _, ⟨s, l, g.letters, rfl, congrArg AV.bool hw.symm, rfl⟩, ?_⟩ | fail) <;> conv => whnf)
    refine ⟨.inl rfl, ?_⟩
    conv => whnf
    refine ⟨[], ⟨rfl, trivial⟩, ?_, rfl, rfl⟩
    conv => whnf
    left
    conv => lhs; whnf
  obtain ⟨hlo, hs, hl, hl0⟩ := let_ok hw
  have hst := hg.1.2.1
  have hsr := hg.1.2.2
  have hse := hg.2.1
  obtain ⟨P, hP⟩ : ∃ P, P = 2 ^ g.sets.toNat := ⟨_, rfl⟩
  have hP1 : 1 ≤ P ∧ P ≤ 2 ^ 4 := ⟨by rw [hP]; exact Nat.one_le_two_pow, by rw [hP]; exact Nat.pow_le_pow_right (by decide) (by omega)⟩
  have hb1 : b = true ↔ Lives (ptsG g.states.toNat s l g.edges) (bitL g.start.toNat 31) (P - 1) := by rw [hP]; exact hb0.trans ⟨fun h => h.2.2, fun h => ⟨hg, hw, h⟩⟩
  have g1 : GOk (ptsG g.states.toNat s l g.edges) := gok_pts hg hl0
  have g2 : MarksOk (ptsG g.states.toNat s l g.edges) := marks_pts hg
  have g3 : (ptsG g.states.toNat s l g.edges).length = (s.length + l.length) * g.states.toNat := length_ptsG
  have g4 : steps (ptsG g.states.toNat s l g.edges) ≤ 1000000000 := steps_pts hg hs hl
  have g5 : ∀ p ∈ bitL g.start.toNat 31, p < (ptsG g.states.toNat s l g.edges).length := start_pts hg hl0
  have g6 : EdgesIn g.states.toNat g.edges := edges_in hg
  have g7 := hg.2.2.1
  have g8 : (bitL g.start.toNat 31).length ≤ 31 := bitL_len
  have hNN : (s.length + l.length) * g.states.toNat ≤ 80 * 31 := Nat.mul_le_mul (by omega) (by omega)
  have hgl := length_gedgeRows g.edges
  have hbl : (ints (natsI (bitL g.start.toNat 31))).length = (bitL g.start.toNat 31).length := by simp [ints]
  have hp1 : ((P : Nat) : Int) - 1 = ((P - 1 : Nat) : Int) := by omega
  cases b
  all_goals
    conv => whnf
    repeat' ((first | contradiction | (refine And.intro (fun hb => ?_) (fun hb => ?_) <;> first | contradiction | ((try simp only [SB, reduceCtorEq] at hb); try (exfalso; first | contradiction | omega))) | rw [snapT_ints hbl] | refine G2 ?_ | rw [ints_at (by omega)] | rw [ints_at0 (by omega)] | rw [ints_at' (by omega) (by omega)] | refine G1 ?_ | refine ⟨_, _, RGenOk_b rfl hg', ?_⟩ | refine ⟨_, _, ⟨s, l, g.letters, rfl, congrArg AV.bool hw.symm, rfl⟩, ?_⟩ | refine ⟨_, _, ROnlyN_is (p := P) (by omega) (by omega) hP, ?_⟩ | refine ⟨_, _, RPoints_eq (s := s) (l := l) (args_cons rfl (args_cons rfl (args_cons rfl rfl))) (by omega) (by omega) g7 g6 (by omega) (by omega) hl0, ?_⟩ | refine ⟨_, _, RSetList_eq rfl (by omega) (by omega), ?_⟩ | refine ⟨_, _, RLives_eq (args_cons (snap_gr g3) (args_cons rfl (args_cons (congrArg (AV.int .i64) hp1) rfl))) g1 g2 (by omega) g4 g5 (by omega) (by omega) hb1, ?_⟩ | fail) <;> conv => whnf)
    refine ⟨.inl rfl, ?_⟩
    conv => whnf
    refine ⟨[], ⟨rfl, trivial⟩, ?_, rfl, rfl⟩
    conv => whnf
    left
    conv => lhs; whnf
end Go.Proofs.Ythanhknkoikbfaa.Ct
namespace Go.Proofs.Ythanhknkoikbfaa.Ct
open Go Go.Proofs Go.Proofs.Ythanhknkoikbfaa.Av
def c_spec_DrawGenTakes : ICode := (.seq (.reg [O0 2 (.alc [(.int .i64 0), (.int .i64 0), (.int .i64 0), (.int .i64 0), .snil]), O0 3 (.alc [.snil, .snil])]) (.seq (.reg [O1 6 .mv 0, O1 7 (.call 110) 6, O1 4 .mv 7]) (.seq (.reg [O1 8 .mv 4, Ol 9 (.call 146) [.t 8, ci 5], O0 5 (.alc [(.int .i64 0), (.int .i64 0), (.int .i64 0), (.int .i64 0), .snil]), S2 (.st 5) 5 9]) (.seq (.seq (.reg [O1 10 (.ldn 5) 5, O1 11 (.call 69) 10, O1 12 .not 11, O1 13 .mv 12, Og 14 .mv [.t 4] 13 false, Og 15 (.call 139) [.t 14, ci 12] 13 false, Ol 16 .pick [.t 13, cb true, .t 15]]) (.cond (.t 16) (.seq (.drw [O1 17 (.ldn 5) 5, O1 18 .mv 4, O1 19 (.call 147) 18, S2 (.st 5) 2 17, S2 (.st 2) 3 19] (unB [0, 0, 2, 7, 15] 0) true true) .ret) .skip)) (.seq (.drw [O1 20 (.ldn 5) 5, O1 21 .mv 4, O1 22 (.fadr 0) 5, O1 23 .ld1 22, O2 24 (.call 148) 21 23, S2 (.st 5) 2 20, S2 (.st 2) 3 24] (unB [0, 0, 0, 4, 14, 31, 63] 0) true true) .ret)))))
theorem b_spec_DrawGenTakes : Body Try.prog 64 25 c_spec_DrawGenTakes [(.cn 2 5), (.cn 3 2)] := body_mk Try.func64 (by kernel_rfl) (by decide)
theorem GDrawGen_nv (xs : List AV) (objs : List AObj) (Q : AV → List (Option AObj) → Prop) (h : GDrawGen xs objs Q) : ∃ r out, Q r out := by
  obtain ⟨code, i, h, n, _, _, _, _, _, hq⟩ := h
  exact ⟨_, _, hq zeroGen 0 0 (by simp [zeroGen]) (Nat.zero_le _)⟩
theorem GNew_nv2 (xs : List AV) (objs : List AObj) (Q : AV → List (Option AObj) → Prop) (h : GNew xs objs Q) : ∃ r out, Q r out := by
  obtain ⟨code, _, _, _, hq⟩ := h
  exact ⟨_, _, hq 0⟩
def gtakenR (g : GenD) (s l : List Int) : AV := .tup [.agg (genRef 0 g), .agg [.ref 1 0 s.length, .ref 2 0 l.length]]
def GDrawGW : GFun := fun xs objs Q => ∃ (code : List UInt8), xs = [.val (code.map byteRow)] ∧ objs = [] ∧ code.length ≤ 1048576 ∧
  ∀ (g : GenD) (s l : List Int), g.edges.length ≤ 2001 → s.length ≤ 201 → l.length ≤ 201 → Q (gtakenR g s l) [some (.arr 4 (gedgeRows g.edges)), some (.arr 1 (ints s)), some (.arr 1 (ints l))]
theorem GDrawGW_mk {code : List UInt8} {Q : AV → List (Option AObj) → Prop} (h2 : code.length ≤ 1048576)
    (hq : ∀ (g : GenD) (s l : List Int), g.edges.length ≤ 2001 → s.length ≤ 201 → l.length ≤ 201 → Q (gtakenR g s l) [some (.arr 4 (gedgeRows g.edges)), some (.arr 1 (ints s)), some (.arr 1 (ints l))]) : GDrawGW [.val (code.map byteRow)] [] Q := ⟨code, rfl, rfl, h2, hq⟩
set_option maxHeartbeats 4000000 in
theorem s_spec_DrawGenTakes : GenSound Try.prog 64 0 GDrawGW := by
  have hR : Rely Try.prog (ctxOf [(110, .gen 0 GNew), (146, .gen 1 GDrawGen), (69, .pure RGenOk), (139, .gen 1 GOnce), (147, .gen 1 GDrawWord), (148, .gen 1 GDrawRight)]) :=
    rely_cons b_spec_l1New.has s_spec_l1New (rely_cons b_spec_l5DrawGen.has s_spec_l5DrawGen (rely_cons b_spec_GenOk.has s_spec_GenOk (rely_cons b_spec_l1Once.has s_spec_l1Once (rely_cons b_spec_l3DrawWord.has s_spec_l3DrawWord (rely_cons b_spec_l3DrawRight.has s_spec_l3DrawRight (rely_nil mixed))))))
  have hV : CtxNV (ctxOf [(110, .gen 0 GNew), (146, .gen 1 GDrawGen), (69, .pure RGenOk), (139, .gen 1 GOnce), (147, .gen 1 GDrawWord), (148, .gen 1 GDrawRight)]) :=
    nv_gen GNew_nv2 (nv_gen GDrawGen_nv (nv_pure (nv_gen GOnce_nv (nv_gen GDrawWord_nv (nv_gen GDrawRight_nv nvNil)))))
  refine gen_of_aw b_spec_DrawGenTakes ?_
  rintro xs objs Q - ⟨code, rfl, rfl, h2, hq⟩ -
  refine ⟨by simp, ?_⟩
  refine Aw.meet (α := Unit) (fun _ => True) (fun _ => [(0, .val (code.map byteRow)), (2, .ptr 0 0 0), (3, .ptr 1 0 0)]) (fun _ => [some gBox0, some (.box [.snil, .snil])]) ?_ ?_
  · refine vc2_sound hR _ _ _ _ _ ?_
    conv => whnf
    repeat' ((first | (refine And.intro (fun hb => ?_) (fun hb => ?_) <;> ((try simp only [SB, reduceCtorEq] at hb); try (exfalso; omega))) | refine G2 ?_ | rw [ints_at (by omega)] | rw [ints_at0 (by omega)] | rw [ints_at' (by omega) (by omega)] | refine G1 ?_ | fail) <;> conv => whnf)
    refine ⟨(), trivial, [some 0, some 1], rfl, rfl, ?_, ?_⟩
    · repeat' (first | exact trivial | exact rfl | exact Or.inl rfl | refine And.intro ?_ ?_)
    · repeat' (first
        | exact trivial
        | refine ⟨?_, ?_⟩
        | fail)
      all_goals first
        | with_reducible rfl
        | (conv => whnf
           try left
           conv => lhs; whnf
           first
             | rfl
             | exact congrArg (AV.int .i64) (by omega)
             | skip)
  rintro _ -
  refine Aw.meet (α := Int) (fun _ => True) (fun _ => [(2, .ptr 0 0 0), (3, .ptr 1 0 0), (4, .ptr 2 0 0)]) (fun h => [some gBox0, some (.box [.snil, .snil]), some (curO code 0 h)]) ?_ ?_
  · refine vc2_sound hR _ _ _ _ _ ?_
    conv => whnf
    repeat' ((first | (refine And.intro (fun hb => ?_) (fun hb => ?_) <;> ((try simp only [SB, reduceCtorEq] at hb); try (exfalso; omega))) | refine G2 ?_ | rw [ints_at (by omega)] | rw [ints_at0 (by omega)] | rw [ints_at' (by omega) (by omega)] | refine G1 ?_ | refine ⟨GNew_mk h2 (fun h => ?_)⟩ | fail) <;> conv => whnf)
    refine ⟨h, trivial, [some 0, some 1, some 2], rfl, rfl, ?_, ?_⟩
    · repeat' (first | exact trivial | exact rfl | exact Or.inl rfl | refine And.intro ?_ ?_)
    · repeat' (first
        | exact trivial
        | refine ⟨?_, ?_⟩
        | fail)
      all_goals first
        | with_reducible rfl
        | (conv => whnf
           try left
           conv => lhs; whnf
           first
             | rfl
             | exact congrArg (AV.int .i64) (by omega)
             | skip)
  rintro h -
  refine Aw.meet (α := GenD × Nat × Int) (genI code 2001) (fun _ => [(2, .ptr 0 0 0), (3, .ptr 1 0 0), (4, .ptr 2 0 0), (5, .ptr 3 0 0)]) (fun c => [some gBox0, some (.box [.snil, .snil]), some (curO code c.2.1 c.2.2), some (.box (genRef 4 c.1)), some (.arr 4 (gedgeRows c.1.edges))]) ?_ ?_
  · refine vc2_sound hR _ _ _ _ _ ?_
    conv => whnf
    repeat' ((first | (refine And.intro (fun hb => ?_) (fun hb => ?_) <;> ((try simp only [SB, reduceCtorEq] at hb); try (exfalso; omega))) | refine G2 ?_ | rw [ints_at (by omega)] | rw [ints_at0 (by omega)] | rw [ints_at' (by omega) (by omega)] | refine G1 ?_ | refine ⟨GDrawGen_mk (by omega) (by omega) (by omega) (fun g i' h' hg hi' => ?_)⟩ | fail) <;> conv => whnf)
    refine ⟨(g, i', h'), ⟨hg, hi'⟩, [some 0, some 1, some 2, some 4, some 3], rfl, rfl, ?_, ?_⟩
    · exact And.intro ⟨.inl rfl, .inl rfl, .inl rfl, .inl rfl, .inl rfl, trivial⟩ (And.intro ⟨.inl rfl, .inl rfl, trivial⟩ (And.intro (And.intro (.inl rfl) (And.intro (.inl rfl) (And.intro (.inl rfl) trivial))) (And.intro ⟨.inl rfl, .inl rfl, .inl rfl, .inl rfl, rfl, trivial⟩ (And.intro ⟨rfl, rfl⟩ trivial))))
    · repeat' (first
        | exact trivial
        | refine ⟨?_, ?_⟩
        | fail)
      all_goals first
        | with_reducible rfl
        | (conv => whnf
           try left
           conv => lhs; whnf
           first
             | rfl
             | exact congrArg (AV.int .i64) (by omega)
             | skip)
  rintro ⟨g, i1, h1'⟩ ⟨hg, hi1⟩
  dsimp only at hg hi1 ⊢
  refine vc3_sound hR hV _ _ _ _ _ ?_
  by_cases hok : GenOk g
  · have hok' : decide (GenOk g) = true := decide_eq_true hok
    have hl8 : g.letters ≤ 8 := hok.1.1.2
    conv => whnf
    repeat' ((first | (refine And.intro (fun hb => ?_) (fun hb => ?_) <;> ((try simp only [SB, reduceCtorEq] at hb); try (exfalso; omega))) | refine G2 ?_ | rw [ints_at (by omega)] | rw [ints_at0 (by omega)] | rw [ints_at' (by omega) (by omega)] | refine G1 ?_ | refine ⟨_, _, RGenOk_b (args_cons (snap_gen rfl) rfl) hok', ?_⟩ | refine ⟨GOnce_mk (by omega) (by omega) (by omega) (fun b i' h' hi' => ?_)⟩ | refine ⟨GDrawWord_mk (by omega) (by omega) (fun s l i' h' hs hl hi' => ?_)⟩ | refine ⟨GDrawRight_mk (by omega) (by omega) (by omega) (fun s l i' h' hs hl hi' => ?_)⟩ | fail) <;> conv => whnf)
    all_goals
      refine ⟨.inl rfl, ?_⟩
      conv => whnf
      refine And.intro (Nat.le_of_ble_eq_true rfl) ?_
      conv => whnf
      refine And.intro (Nat.le_of_ble_eq_true rfl) ?_
      conv => whnf
      exact ⟨[some 4, some 5, some 6], gtakenR g s l, [some (.arr 4 (gedgeRows g.edges)), some (.arr 1 (ints s)), some (.arr 1 (ints l))], ⟨rfl, And.intro ⟨rfl, rfl⟩ (And.intro ⟨rfl, rfl⟩ (And.intro ⟨rfl, rfl⟩ trivial))⟩,
        ⟨⟨.inl rfl, .inl rfl, .inl rfl, .inl rfl, rfl, trivial⟩, ⟨rfl, rfl, trivial⟩, trivial⟩, rfl, hq g s l hg (by omega) (by omega)⟩
  · have hok' : decide (GenOk g) = false := decide_eq_false hok
    conv => whnf
    repeat' ((first | (refine And.intro (fun hb => ?_) (fun hb => ?_) <;> ((try simp only [SB, reduceCtorEq] at hb); try (exfalso; omega))) | refine G2 ?_ | rw [ints_at (by omega)] | rw [ints_at0 (by omega)] | rw [ints_at' (by omega) (by omega)] | refine G1 ?_ | refine ⟨_, _, RGenOk_b (args_cons (snap_gen rfl) rfl) hok', ?_⟩ | refine ⟨GDrawWord_mk (by omega) (by omega) (fun s l i' h' hs hl hi' => ?_)⟩ | fail) <;> conv => whnf)
    all_goals
      refine ⟨.inl rfl, ?_⟩
      conv => whnf
      refine And.intro (Nat.le_of_ble_eq_true rfl) ?_
      conv => whnf
      refine And.intro (Nat.le_of_ble_eq_true rfl) ?_
      conv => whnf
      exact ⟨[some 4, some 5, some 6], gtakenR g s l, [some (.arr 4 (gedgeRows g.edges)), some (.arr 1 (ints s)), some (.arr 1 (ints l))], ⟨rfl, And.intro ⟨rfl, rfl⟩ (And.intro ⟨rfl, rfl⟩ (And.intro ⟨rfl, rfl⟩ trivial))⟩,
        ⟨⟨.inl rfl, .inl rfl, .inl rfl, .inl rfl, rfl, trivial⟩, ⟨rfl, rfl, trivial⟩, trivial⟩, rfl, hq g s l hg (by omega) (by omega)⟩
end Go.Proofs.Ythanhknkoikbfaa.Ct
namespace Go.Proofs.Ythanhknkoikbfaa.Ct
open Go Go.Proofs Go.Proofs.Ythanhknkoikbfaa.Av Go.Proofs.Ythanhknkoikbfaa.Pl
def nextU (m S k : Nat) : Nat := if k < S ∧ m.testBit k = true then nextU m S (k + 1) else k
  termination_by S - k
theorem nextU_yes {m S k : Nat} (h : k < S) (hb : m.testBit k = true) : nextU m S k = nextU m S (k + 1) := by rw [nextU, if_pos ⟨h, hb⟩]
theorem nextU_no {m S k : Nat} (h : ¬ (k < S ∧ m.testBit k = true)) : nextU m S k = k := by rw [nextU, if_neg h]
theorem nextU_all {m S : Nat} : ∀ (f k : Nat), S - k = f → k ≤ S → k ≤ nextU m S k ∧ nextU m S k ≤ S ∧ (∀ b, k ≤ b → b < nextU m S k → m.testBit b = true)
  | 0, k, hf, hk => by
    rw [nextU_no (by omega)]
    exact ⟨Nat.le_refl _, hk, fun b h1 h2 => by omega⟩
  | f + 1, k, hf, hk => by
    by_cases hb : m.testBit k = true
    · rw [nextU_yes (by omega) hb]
      obtain ⟨h1, h2, h3⟩ := nextU_all (m := m) (S := S) f (k + 1) (by omega) (by omega)
      refine ⟨by omega, h2, fun b g1 g2 => ?_⟩
      by_cases he : b = k
      · rw [he]; exact hb
      · exact h3 b (by omega) g2
    · rw [nextU_no (fun h => hb h.2)]
      exact ⟨Nat.le_refl _, hk, fun b h1 h2 => by omega⟩
theorem nextU_in {m S k : Nat} (h : k ≤ S) : k ≤ nextU m S k ∧ nextU m S k ≤ S := ⟨(nextU_all _ k rfl h).1, (nextU_all _ k rfl h).2.1⟩
theorem nextU_bit {m S k b : Nat} (h : k ≤ S) (h1 : k ≤ b) (h2 : b < nextU m S k) : m.testBit b = true := (nextU_all _ k rfl h).2.2 b h1 h2
theorem nextU_more {m S k : Nat} (h : k < S) (hb : m.testBit k = true) : k < nextU m S k := by
  rw [nextU_yes h hb]
  exact (nextU_in (m := m) (show k + 1 ≤ S from h)).1
def waitJ (m S k : Nat) : Nat := if nextU m S k = S then 0 else nextU m S k
def setsN (g : GenD) : Nat := max g.sets.toNat 1
def degE (S n : Nat) (e : GEdgeD) (k : Nat) : EdgeD := ⟨e.src * ((n : Nat) : Int) + ((k : Nat) : Int), e.letter, e.dst * ((n : Nat) : Int) + ((waitJ e.marks.toNat S k : Nat) : Int), decide (nextU e.marks.toNat S k = S)⟩
theorem waitJ_lt {m S k n : Nat} (hn : n = max S 1) (hk : k < n) : waitJ m S k < n := by
  unfold waitJ
  have := nextU_in (m := m) (S := S) (k := k) (by omega)
  split <;> omega
theorem gmem_in {g : GenD} (hg : GenOk g) {e : GEdgeD} (he : e ∈ g.edges) : GIn g e := by
  obtain ⟨i, hi, rfl⟩ := List.getElem_of_mem he
  have := (hg.2.2.2 i hi).1
  rwa [List.getD_eq_getElem?_getD, List.getElem?_eq_getElem hi] at this
theorem deg_num {x : Int} {n k : Nat} (hx : 0 ≤ x) : (x * ((n : Nat) : Int) + ((k : Nat) : Int)).toNat = x.toNat * n + k := by
  obtain ⟨m, rfl⟩ := Int.eq_ofNat_of_zero_le hx
  rw [Int.toNat_natCast]
  have : ((m : Nat) : Int) * ((n : Nat) : Int) + ((k : Nat) : Int) = ((m * n + k : Nat) : Int) := by simp
  rw [this, Int.toNat_natCast]
theorem num_div {a n k : Nat} (hk : k < n) : (a * n + k) / n = a := by
  rw [Nat.mul_comm, Nat.mul_add_div (by omega), Nat.div_eq_of_lt hk, Nat.add_zero]
theorem num_mod {a n k : Nat} (hk : k < n) : (a * n + k) % n = k := by
  rw [Nat.mul_comm, Nat.mul_add_mod, Nat.mod_eq_of_lt hk]
def waitK (S : Nat) (e : Nat → GEdgeD) : Nat → Nat
  | 0 => 0
  | i + 1 => waitJ (e i).marks.toNat S (waitK S e i)
theorem degen_run {g : GenD} (hg : GenOk g) {A : AutoD} {w : Nat → Int} (hst : ∀ p, A.start.toNat.testBit p = true ↔ p % setsN g = 0 ∧ g.start.toNat.testBit (p / setsN g) = true)
    (hed : ∀ e, e ∈ A.edges ↔ ∃ d ∈ g.edges, ∃ k, k < setsN g ∧ degE g.sets.toNat (setsN g) d k = e) : (∃ q e, RunA A w q e) ↔ ∃ q e, Run g w q e := by
  obtain ⟨S, hS⟩ : ∃ S, S = g.sets.toNat := ⟨_, rfl⟩
  obtain ⟨n, hn⟩ : ∃ n, n = setsN g := ⟨_, rfl⟩
  have hnS : n = max S 1 := by rw [hn, hS]; rfl
  rw [← hn] at hst hed
  rw [← hS] at hed
  constructor
  · rintro ⟨q, e, hr⟩
    have hex : ∀ i, ∃ dk : GEdgeD × Nat, dk.1 ∈ g.edges ∧ dk.2 < n ∧ degE S n dk.1 dk.2 = e i := fun i => by
      obtain ⟨d, h1, k, h2, h3⟩ := (hed _).1 (hr.edge i)
      exact ⟨(d, k), h1, h2, h3⟩
    obtain ⟨f, hf⟩ := Classical.axiomOfChoice hex
    have hsrc : ∀ i, q i = (f i).1.src.toNat * n + (f i).2 := fun i => by
      obtain ⟨h1, h2, h3⟩ := hf i
      have hin := gmem_in hg h1
      unfold GIn at hin
      rw [← hr.src i, ← h3]
      exact deg_num hin.1.1
    have hdst : ∀ i, q (i + 1) = (f i).1.dst.toNat * n + waitJ (f i).1.marks.toNat S (f i).2 := fun i => by
      obtain ⟨h1, h2, h3⟩ := hf i
      have hin := gmem_in hg h1
      unfold GIn at hin
      rw [← hr.dst i, ← h3]
      exact deg_num hin.2.1.1
    have hk : ∀ i, (f (i + 1)).2 = waitJ (f i).1.marks.toNat S (f i).2 := fun i => by
      have h1 := hsrc (i + 1)
      rw [hdst i] at h1
      have := congrArg (· % n) h1
      rwa [num_mod (waitJ_lt hnS (hf i).2.1), num_mod (hf (i + 1)).2.1, eq_comm] at this
    refine ⟨fun i => q i / n, fun i => (f i).1, ⟨((hst _).1 hr.start).2, fun i => (hf i).1, fun i => ?_, fun i => ?_, fun i => ?_, fun b hb i => ?_⟩⟩
    · rw [← hr.letter i, ← (hf i).2.2]; rfl
    · rw [hsrc i, num_div (hf i).2.1]
    · rw [hdst i, num_div (waitJ_lt hnS (hf i).2.1)]
    · refine Classical.byContradiction fun hno => ?_
      rw [← hS] at hb
      have hnb : ∀ t, i ≤ t → ¬ (f t).1.marks.toNat.testBit b = true := fun t ht h => hno ⟨t, ht, h⟩
      have hgood : ∀ t, (e t).mark = true ↔ nextU (f t).1.marks.toNat S (f t).2 = S := fun t => by
        rw [← (hf t).2.2]
        exact decide_eq_true_iff
      have hstop : ∀ t, i ≤ t → (f t).2 ≤ b → nextU (f t).1.marks.toNat S (f t).2 ≤ b := fun t ht hle =>
        Nat.le_of_not_lt fun hlt => hnb t ht (nextU_bit (by omega) hle hlt)
      obtain ⟨t1, ht1, hm1⟩ := hr.mark i
      have hlate : ∀ j, (f (t1 + 1 + j)).2 ≤ b := fun j => by
        induction j with
        | zero =>
          rw [Nat.add_zero, hk t1]
          unfold waitJ
          rw [if_pos ((hgood t1).1 hm1)]
          exact Nat.zero_le _
        | succ j ih =>
          have h1 := hstop (t1 + 1 + j) (by omega) ih
          rw [← Nat.add_assoc, hk]
          unfold waitJ
          rw [if_neg (by omega)]
          exact h1
      obtain ⟨t2, ht2, hm2⟩ := hr.mark (t1 + 1)
      obtain ⟨j, rfl⟩ := Nat.exists_eq_add_of_le ht2
      have h1 := hstop (t1 + 1 + j) (by omega) (hlate j)
      have h2 := (hgood _).1 hm2
      omega
  · rintro ⟨q, e, hr⟩
    have hK : ∀ i, waitK S e i < n := fun i => by
      induction i with
      | zero => show 0 < n; omega
      | succ i ih => exact waitJ_lt hnS ih
    have hKs : ∀ i, waitK S e (i + 1) = waitJ (e i).marks.toNat S (waitK S e i) := fun _ => rfl
    refine ⟨fun i => q i * n + waitK S e i, fun i => degE S n (e i) (waitK S e i), ⟨?_, fun i => ?_, fun i => hr.letter i, fun i => ?_, fun i => ?_, fun i => ?_⟩⟩
    · rw [hst]
      have h0 : waitK S e 0 = 0 := rfl
      rw [num_mod (hK 0), num_div (hK 0)]
      exact ⟨h0, hr.start⟩
    · exact (hed _).2 ⟨e i, hr.edge i, _, hK i, rfl⟩
    · have hin := gmem_in hg (hr.edge i)
      unfold GIn at hin
      show (degE S n (e i) (waitK S e i)).src.toNat = _
      unfold degE
      rw [deg_num hin.1.1, hr.src i]
    · have hin := gmem_in hg (hr.edge i)
      unfold GIn at hin
      show (degE S n (e i) (waitK S e i)).dst.toNat = _
      unfold degE
      rw [deg_num hin.2.1.1, hr.dst i]
      rfl
    · show ∃ j, i ≤ j ∧ decide (nextU (e j).marks.toNat S (waitK S e j) = S) = true
      simp only [decide_eq_true_eq]
      have key : ∀ (c t : Nat), S - waitK S e t = c → ∃ j, t ≤ j ∧ nextU (e j).marks.toNat S (waitK S e j) = S := by
        intro c
        induction c using Nat.strongRecOn with
        | _ c ih =>
        intro t hc
        by_cases h0 : S = 0
        · refine ⟨t, Nat.le_refl _, ?_⟩
          have := hK t
          have := nextU_in (m := (e t).marks.toNat) (S := S) (k := waitK S e t) (by omega)
          omega
        have hlt : waitK S e t < S := by have := hK t; omega
        obtain ⟨t2, ht2, hm⟩ := hr.mark (waitK S e t) (by rw [← hS]; exact hlt) t
        refine Classical.byContradiction fun hno => ?_
        have hng : ∀ j, t ≤ j → nextU (e j).marks.toNat S (waitK S e j) ≠ S := fun j hj h => hno ⟨j, hj, h⟩
        have hstep : ∀ j, t ≤ j → waitK S e (j + 1) = nextU (e j).marks.toNat S (waitK S e j) := fun j hj => by
          rw [hKs]; unfold waitJ; rw [if_neg (hng j hj)]
        have hup : ∀ j, waitK S e t ≤ waitK S e (t + j) := fun j => by
          induction j with
          | zero => exact Nat.le_refl _
          | succ j ih2 =>
            rw [← Nat.add_assoc, hstep _ (by omega)]
            have := hK (t + j)
            have := (nextU_in (m := (e (t + j)).marks.toNat) (S := S) (k := waitK S e (t + j)) (by omega)).1
            omega
        obtain ⟨j, rfl⟩ := Nat.exists_eq_add_of_le ht2
        have h1 := hup j
        by_cases he : waitK S e (t + j) = waitK S e t
        · have h2 := nextU_more (m := (e (t + j)).marks.toNat) (S := S) (k := waitK S e (t + j)) (by omega) (by rw [he]; exact hm)
          rw [← hstep _ (by omega), he] at h2
          obtain ⟨j2, hj2, hg2⟩ := ih (S - waitK S e (t + j + 1)) (by omega) (t + j + 1) rfl
          exact hno ⟨j2, by omega, hg2⟩
        · obtain ⟨j2, hj2, hg2⟩ := ih (S - waitK S e (t + j)) (by omega) (t + j) rfl
          exact hno ⟨j2, by omega, hg2⟩
      exact key _ i rfl
end Go.Proofs.Ythanhknkoikbfaa.Ct
namespace Go.Proofs.Ythanhknkoikbfaa.Ct
open Go Go.Proofs Go.Proofs.Ythanhknkoikbfaa.Av
def edK (e : EdgeD) : Int × Int × Int := (e.src, e.letter, e.dst)
theorem edK_iff {x y : EdgeD} : edK x = edK y ↔ x.src = y.src ∧ x.letter = y.letter ∧ x.dst = y.dst := by simp [edK]
theorem less_key {x y x' y' : EdgeD} (h : edK x = edK x') (k : edK y = edK y') : edgeLess x y = edgeLess x' y' := by
  rw [edK_iff] at h k
  unfold edgeLess
  rw [h.1, h.2.1, h.2.2, k.1, k.2.1, k.2.2]
theorem less_irrefl {x y : EdgeD} (h : edK x = edK y) : ¬ edgeLess x y = true := by
  rw [edK_iff] at h
  rw [edgeLess_iff]; omega
theorem less_trans {x y z : EdgeD} (h : edgeLess x y = true) (k : edgeLess y z = true) : edgeLess x z = true := by rw [edgeLess_iff] at *; omega
theorem less_tri {x y : EdgeD} (h : ¬ edgeLess y x = true) : edgeLess x y = true ∨ edK x = edK y := by rw [edK_iff]; rw [edgeLess_iff] at *; omega
theorem edge_ext {x y : EdgeD} (h : edK x = edK y) (k : x.mark = true ↔ y.mark = true) : x = y := by
  rw [edK_iff] at h
  obtain ⟨a, b, c, d⟩ := x
  obtain ⟨a', b', c', d'⟩ := y
  dsimp only at h k
  obtain ⟨rfl, rfl, rfl⟩ := h
  have : d = d' := by cases d <;> cases d' <;> simp_all
  rw [this]
theorem sorted_uniq : ∀ {a b : List EdgeD}, a.Pairwise (fun x y => edgeLess x y = true) → b.Pairwise (fun x y => edgeLess x y = true) → (∀ e, e ∈ a ↔ e ∈ b) → a = b
  | [], [], _, _, _ => rfl
  | [], y :: ys, _, _, h => by have := (h y).2 (List.mem_cons_self ..); cases this
  | x :: xs, [], _, _, h => by have := (h x).1 (List.mem_cons_self ..); cases this
  | x :: xs, y :: ys, h1, h2, h => by
    obtain ⟨a1, a2⟩ := List.pairwise_cons.1 h1
    obtain ⟨b1, b2⟩ := List.pairwise_cons.1 h2
    have hxy : x = y := by
      rcases List.mem_cons.1 ((h x).1 (List.mem_cons_self ..)) with e | e
      · exact e
      · rcases List.mem_cons.1 ((h y).2 (List.mem_cons_self ..)) with e' | e'
        · exact e'.symm
        · exact absurd (less_trans (b1 x e) (a1 y e')) (less_irrefl rfl)
    subst hxy
    rw [sorted_uniq a2 b2 fun e => ⟨fun he => ?_, fun he => ?_⟩]
    · rcases List.mem_cons.1 ((h e).1 (List.mem_cons_of_mem _ he)) with e1 | e1
      · subst e1; exact absurd (a1 _ he) (less_irrefl rfl)
      · exact e1
    · rcases List.mem_cons.1 ((h e).2 (List.mem_cons_of_mem _ he)) with e1 | e1
      · subst e1; exact absurd (b1 _ he) (less_irrefl rfl)
      · exact e1
def IsOrd (es out : List EdgeD) : Prop := out.Pairwise (fun x y => edgeLess x y = true) ∧ ∀ e, e ∈ out ↔ (∃ d ∈ es, edK d = edK e) ∧ (e.mark = true ↔ ∃ d ∈ es, edK d = edK e ∧ d.mark = true)
theorem isOrd_uniq {es a b : List EdgeD} (h : IsOrd es a) (k : IsOrd es b) : a = b := sorted_uniq h.1 k.1 fun e => by rw [h.2, k.2]
theorem isOrd_perm {es es' a : List EdgeD} (hp : es.Perm es') (h : IsOrd es a) : IsOrd es' a := ⟨h.1, fun e => by
  rw [h.2]
  simp only [hp.mem_iff]⟩
noncomputable def ordL (es : List EdgeD) : List EdgeD := open Classical in if h : ∃ out, IsOrd es out then Classical.choose h else []
theorem ordL_of {es out : List EdgeD} (h : IsOrd es out) : ordL es = out := by
  have hx : ∃ out, IsOrd es out := ⟨out, h⟩
  unfold ordL
  rw [dif_pos hx]
  exact isOrd_uniq (Classical.choose_spec hx) h
theorem isOrd_nil : IsOrd [] [] := ⟨List.Pairwise.nil, fun e => by simp⟩
theorem ord_has {es out : List EdgeD} (h : IsOrd es out) {d : EdgeD} (hd : d ∈ es) : ∃ x ∈ out, edK x = edK d := by
  refine ⟨⟨d.src, d.letter, d.dst, (open Classical in decide (∃ x ∈ es, edK x = edK d ∧ x.mark = true))⟩, (h.2 _).2 ⟨⟨d, hd, rfl⟩, ?_⟩, rfl⟩
  show decide _ = true ↔ _
  exact decide_eq_true_iff
theorem ex_snoc {l : List EdgeD} {e : EdgeD} {p : EdgeD → Prop} : (∃ d ∈ l ++ [e], p d) ↔ (∃ d ∈ l, p d) ∨ p e := by
  constructor
  · rintro ⟨d, hd, hp⟩
    rcases List.mem_append.1 hd with h | h
    · exact .inl ⟨d, h, hp⟩
    · rw [List.mem_singleton.1 h] at hp; exact .inr hp
  · rintro (⟨d, hd, hp⟩ | hp)
    · exact ⟨d, List.mem_append_left _ hd, hp⟩
    · exact ⟨e, by simp, hp⟩
theorem ord_new {l out : List EdgeD} {e : EdgeD} (h : IsOrd l out) (hs : ∀ d ∈ l, ¬ edgeLess e d = true) (hne : ∀ o z, out = o ++ [z] → edK z ≠ edK e) : IsOrd (l ++ [e]) (out ++ [e]) := by
  have hlt : ∀ x ∈ out, edgeLess x e = true := fun x hx => by
    have hd : ∀ y ∈ out, ¬ edgeLess e y = true := fun y hy => by
      obtain ⟨⟨d, hd, hk⟩, _⟩ := (h.2 y).1 hy
      rw [← less_key rfl hk]; exact hs d hd
    rcases less_tri (hd x hx) with h1 | h1
    · exact h1
    · exfalso
      rcases List.eq_nil_or_concat out with h0 | ⟨o, z, h0⟩
      · rw [h0] at hx; cases hx
      · rw [List.concat_eq_append] at h0
        have hz : z ∈ out := by rw [h0]; simp
        rw [h0] at hx
        rcases List.mem_append.1 hx with h2 | h2
        · have hp := h.1
          rw [h0] at hp
          have := (List.pairwise_append.1 hp).2.2 x h2 z (by simp)
          rw [less_key h1 rfl] at this
          exact hd z hz this
        · rw [List.mem_singleton.1 h2] at h1
          exact hne o z h0 h1
  have hno : ∀ d ∈ l, edK d ≠ edK e := fun d hd hk => by
    obtain ⟨x, hx, hxk⟩ := ord_has h hd
    exact less_irrefl (hxk.trans hk) (hlt x hx)
  refine ⟨List.pairwise_append.2 ⟨h.1, List.pairwise_singleton _ _, fun x hx y hy => by rw [List.mem_singleton.1 hy]; exact hlt x hx⟩, fun f => ?_⟩
  rw [List.mem_append, List.mem_singleton, ex_snoc, ex_snoc]
  by_cases hk : edK e = edK f
  · have hno' : ¬ ∃ d ∈ l, edK d = edK f ∧ d.mark = true := by
      rintro ⟨d, hd, h1, _⟩; exact hno d hd (h1.trans hk.symm)
    constructor
    · rintro (h1 | h1)
      · exact absurd (hlt f h1) (less_irrefl hk.symm)
      · refine ⟨.inr hk, ?_⟩
        rw [h1]
        exact ⟨fun h2 => .inr ⟨rfl, h2⟩, fun h2 => by
          rcases h2 with h2 | h2
          · rw [h1] at hno'; exact absurd h2 hno'
          · exact h2.2⟩
    · rintro ⟨_, h2⟩
      refine .inr (edge_ext hk.symm ?_)
      rw [h2]
      exact ⟨fun h3 => by
        rcases h3 with h3 | h3
        · exact absurd h3 hno'
        · exact h3.2, fun h3 => .inr ⟨hk, h3⟩⟩
  · have hf : f ≠ e := fun h1 => hk (by rw [h1])
    rw [h.2]
    simp only [hk, hf, false_and, or_false]
theorem ord_same {l out : List EdgeD} {z e : EdgeD} (h : IsOrd l (out ++ [z])) (hk : edK z = edK e) : IsOrd (l ++ [e]) (out ++ [⟨z.src, z.letter, z.dst, z.mark || e.mark⟩]) := by
  obtain ⟨h1, h2⟩ := h
  obtain ⟨p1, _, p3⟩ := List.pairwise_append.1 h1
  have hkz : edK (⟨z.src, z.letter, z.dst, z.mark || e.mark⟩ : EdgeD) = edK z := rfl
  have hzm := ((h2 z).1 (by simp)).2
  refine ⟨List.pairwise_append.2 ⟨p1, List.pairwise_singleton _ _, fun x hx y hy => by rw [List.mem_singleton.1 hy, less_key rfl hkz]; exact p3 x hx z (by simp)⟩, fun f => ?_⟩
  have hm := h2 f
  rw [List.mem_append, List.mem_singleton] at hm
  rw [List.mem_append, List.mem_singleton, ex_snoc, ex_snoc]
  have hout : ∀ x ∈ out, edK x ≠ edK e := fun x hx hxe => less_irrefl (hxe.trans hk.symm) (p3 x hx z (by simp))
  by_cases hf : edK e = edK f
  · have hnf : f ∉ out := fun hx => hout f hx hf.symm
    constructor
    · rintro (g | g)
      · exact absurd g hnf
      · refine ⟨.inr hf, ?_⟩
        rw [g]
        show (z.mark || e.mark) = true ↔ _
        rw [Bool.or_eq_true, hzm]
        constructor
        · rintro (⟨d, hd, k1, k2⟩ | k1)
          · exact .inl ⟨d, hd, k1, k2⟩
          · exact .inr ⟨hk.symm, k1⟩
        · rintro (⟨d, hd, k1, k2⟩ | k1)
          · exact .inl ⟨d, hd, k1, k2⟩
          · exact .inr k1.2
    · rintro ⟨_, g⟩
      refine .inr (edge_ext (hf.symm.trans hk.symm) ?_)
      show _ ↔ (z.mark || e.mark) = true
      rw [Bool.or_eq_true, g, hzm]
      have hzf : edK z = edK f := hk.trans hf
      constructor
      · rintro (⟨d, hd, k1, k2⟩ | k1)
        · exact .inl ⟨d, hd, k1.trans hzf.symm, k2⟩
        · exact .inr k1.2
      · rintro (⟨d, hd, k1, k2⟩ | k1)
        · exact .inl ⟨d, hd, k1.trans hzf, k2⟩
        · exact .inr ⟨hf, k1⟩
  · have hfz : f ≠ z := fun g => hf (by rw [g]; exact hk.symm)
    have hfz' : f ≠ (⟨z.src, z.letter, z.dst, z.mark || e.mark⟩ : EdgeD) := fun g => hf (by rw [g]; exact hk.symm)
    simp only [hfz, or_false] at hm
    simp only [hf, hfz', false_and, or_false]
    exact hm
theorem ord_step {l out : List EdgeD} {e : EdgeD} (h : IsOrd l out) (hs : ∀ d ∈ l, ¬ edgeLess e d = true) : ∃ out', IsOrd (l ++ [e]) out' ∧ out'.length ≤ out.length + 1 := by
  rcases List.eq_nil_or_concat out with h0 | ⟨o, z, h0⟩
  · exact ⟨_, ord_new h hs (fun o z hz => by rw [h0] at hz; simp at hz), by simp⟩
  · rw [List.concat_eq_append] at h0
    by_cases hk : edK z = edK e
    · subst h0
      exact ⟨_, ord_same h hk, by simp⟩
    · refine ⟨_, ord_new h hs (fun o' z' hz => ?_), by simp⟩
      rw [h0] at hz
      obtain ⟨_, hz⟩ := List.append_inj' hz rfl
      simp only [List.cons.injEq, and_true] at hz
      rw [← hz]; exact hk
theorem ord_build : ∀ (n : Nat) (l : List EdgeD), l.length = n → l.Pairwise (fun x y => ¬ edgeLess y x = true) → ∃ out, IsOrd l out ∧ out.length ≤ l.length
  | 0, l, hn, _ => by
    rw [List.eq_nil_of_length_eq_zero hn]
    exact ⟨[], isOrd_nil, Nat.le_refl _⟩
  | n + 1, l, hn, hp => by
    rcases List.eq_nil_or_concat l with h0 | ⟨l', e, h0⟩
    · rw [h0] at hn; cases hn
    · rw [List.concat_eq_append] at h0
      subst h0
      obtain ⟨p1, _, p3⟩ := List.pairwise_append.1 hp
      have hl : l'.length = n := by simpa using hn
      obtain ⟨out, h1, h2⟩ := ord_build n l' hl p1
      obtain ⟨out', g1, g2⟩ := ord_step (e := e) h1 (fun d hd => p3 d hd e (by simp))
      exact ⟨out', g1, by simp; omega⟩
theorem isOrd_ordL (es : List EdgeD) : IsOrd es (ordL es) ∧ (ordL es).length ≤ es.length := by
  have hp : (es.mergeSort fun x y => !edgeLess y x).Pairwise fun x y => ¬ edgeLess y x = true := by
    refine List.Pairwise.imp (fun {a b} h => ?_) (List.pairwise_mergeSort (le := fun x y => !edgeLess y x) (fun a b c h1 h2 => ?_) (fun a b => ?_) es)
    · simpa using h
    · simp only [Bool.not_eq_true', ← Bool.not_eq_true] at h1 h2 ⊢
      rw [edgeLess_iff] at *; omega
    · rw [Bool.or_eq_true]
      simp only [Bool.not_eq_true', ← Bool.not_eq_true]
      rw [edgeLess_iff, edgeLess_iff]; omega
  have hm := List.mergeSort_perm es fun x y => !edgeLess y x
  obtain ⟨out, h1, h2⟩ := ord_build _ _ rfl hp
  have h3 := isOrd_perm hm h1
  rw [ordL_of h3]
  exact ⟨h3, by rw [← hm.length_eq]; exact h2⟩
end Go.Proofs.Ythanhknkoikbfaa.Ct
namespace Go.Proofs.Ythanhknkoikbfaa.Ct
open Go Go.Proofs Go.Proofs.Ythanhknkoikbfaa.Av Go.Proofs.Ythanhknkoikbfaa.Pl
def degOf (S n : Nat) (e : GEdgeD) : List EdgeD := (List.range n).map (degE S n e)
theorem degOf_len {S n : Nat} {e : GEdgeD} : (degOf S n e).length = n := by simp [degOf]
def degL (g : GenD) (i : Nat) : List EdgeD := (g.edges.take i).flatMap (degOf g.sets.toNat (setsN g))
theorem degL_succ {g : GenD} {i : Nat} (h : i < g.edges.length) : degL g (i + 1) = degL g i ++ degOf g.sets.toNat (setsN g) (g.edges.getD i default) := by
  unfold degL
  rw [List.take_add_one, List.flatMap_append, List.getElem?_eq_getElem h, List.getD_eq_getElem?_getD, List.getElem?_eq_getElem h]
  simp
theorem degL_len {g : GenD} : ∀ {i : Nat}, i ≤ g.edges.length → (degL g i).length = i * setsN g
  | 0, _ => by simp [degL]
  | i + 1, h => by rw [degL_succ h, List.length_append, degL_len (by omega), degOf_len, Nat.add_mul, Nat.one_mul]
theorem mem_degL {g : GenD} {e : EdgeD} : e ∈ degL g g.edges.length ↔ ∃ d ∈ g.edges, ∃ k, k < setsN g ∧ degE g.sets.toNat (setsN g) d k = e := by
  unfold degL
  rw [List.take_length]
  simp [List.mem_flatMap, degOf]
def stN (n : Nat) (L : List Nat) : Nat := L.foldl (fun a s => a ||| 2 ^ (s * n)) 0
theorem stN_snoc {n s : Nat} {L : List Nat} : stN n (L ++ [s]) = stN n L ||| 2 ^ (s * n) := by simp [stN]
theorem stN_fold {n p : Nat} : ∀ (L : List Nat) (a : Nat), (L.foldl (fun a s => a ||| 2 ^ (s * n)) a).testBit p = true ↔ a.testBit p = true ∨ ∃ s ∈ L, p = s * n
  | [], a => by simp
  | x :: r, a => by
    rw [List.foldl_cons, stN_fold r, Nat.testBit_or, Bool.or_eq_true, Nat.testBit_two_pow, decide_eq_true_eq]
    constructor
    · rintro ((h | h) | ⟨s, h1, h2⟩)
      · exact .inl h
      · exact .inr ⟨x, by simp, h.symm⟩
      · exact .inr ⟨s, by simp [h1], h2⟩
    · rintro (h | ⟨s, h1, h2⟩)
      · exact .inl (.inl h)
      · rcases List.mem_cons.1 h1 with h3 | h3
        · subst h3; exact .inl (.inr h2.symm)
        · exact .inr ⟨s, h3, h2⟩
theorem stN_bit {n p : Nat} {L : List Nat} : (stN n L).testBit p = true ↔ ∃ s ∈ L, p = s * n := by
  unfold stN
  rw [stN_fold]
  simp
theorem stN_lt {n m : Nat} {L : List Nat} (h : ∀ s ∈ L, s < m) (hn : 0 < n) : stN n L < 2 ^ (m * n) := by
  refine Nat.lt_pow_two_of_testBit _ fun i hi => ?_
  rw [← Bool.not_eq_true, stN_bit]
  rintro ⟨s, hs, rfl⟩
  have := Nat.mul_lt_mul_of_pos_right (h s hs) hn
  omega
theorem stN_one {X : Nat} (h : X < 2 ^ 31) : stN 1 (bitL X 31) = X := by
  refine Nat.eq_of_testBit_eq fun i => Bool.eq_iff_iff.2 ?_
  rw [stN_bit]
  constructor
  · rintro ⟨s, hs, rfl⟩
    rw [Nat.mul_one]; exact (mem_bitL.1 hs).2
  · intro hb
    exact ⟨i, mem_bitL.2 ⟨bit_lt h hb, hb⟩, (Nat.mul_one _).symm⟩
noncomputable def degD (g : GenD) : AutoD := ⟨g.letters, g.states * ((setsN g : Nat) : Int), ((stN (setsN g) (bitL g.start.toNat 31) : Nat) : Int), ordL (degL g g.edges.length)⟩
def DegOk (g : GenD) : Prop := GenOk g ∧ g.states * ((setsN g : Nat) : Int) ≤ 31 ∧ ((g.edges.length : Nat) : Int) * ((setsN g : Nat) : Int) ≤ 2000
instance (g : GenD) : Decidable (DegOk g) := by unfold DegOk; infer_instance
theorem setsN_pos (g : GenD) : 0 < setsN g := by unfold setsN; omega
theorem deg_in {g : GenD} (h : DegOk g) {e : EdgeD} (he : e ∈ degL g g.edges.length) : EdgeH g.letters (g.states * ((setsN g : Nat) : Int)) e := by
  obtain ⟨d, hd, k, hk, rfl⟩ := mem_degL.1 he
  have hin := gmem_in h.1 hd
  unfold GIn at hin
  have hw := waitJ_lt (m := d.marks.toNat) (S := g.sets.toNat) (n := setsN g) rfl hk
  unfold EdgeH degE
  dsimp only
  generalize setsN g = n at *
  have h1 : d.src * ((n : Nat) : Int) ≤ (g.states - 1) * ((n : Nat) : Int) := Int.mul_le_mul_of_nonneg_right hin.1.2 (by omega)
  have h2 : d.dst * ((n : Nat) : Int) ≤ (g.states - 1) * ((n : Nat) : Int) := Int.mul_le_mul_of_nonneg_right hin.2.1.2 (by omega)
  have h3 : 0 ≤ d.src * ((n : Nat) : Int) := Int.mul_nonneg hin.1.1 (by omega)
  have h4 : 0 ≤ d.dst * ((n : Nat) : Int) := Int.mul_nonneg hin.2.1.1 (by omega)
  rw [Int.sub_mul, Int.one_mul] at h1 h2
  generalize waitJ d.marks.toNat g.sets.toNat k = j at *
  omega
theorem deg_start {g : GenD} (h : DegOk g) : HeadOk g.letters (g.states * ((setsN g : Nat) : Int)) ((stN (setsN g) (bitL g.start.toNat 31) : Nat) : Int) := by
  have hst := h.1.1.2.1
  have hn := setsN_pos g
  obtain ⟨m, hm⟩ : ∃ m, m = g.states.toNat := ⟨_, rfl⟩
  have hm1 : g.states = ((m : Nat) : Int) := by omega
  have hlt : stN (setsN g) (bitL g.start.toNat 31) < 2 ^ (m * setsN g) := stN_lt (fun s hs => by rw [hm]; exact bit_lt (gstart_lt h.1) (mem_bitL.1 hs).2) hn
  have h31 := h.2.1
  rw [hm1, ← Int.natCast_mul] at h31 ⊢
  have hle : m * setsN g ≤ 31 := by omega
  have hp := pow_le31 hle
  refine ⟨h.1.1.1, by omega, by omega, by omega, ?_⟩
  rw [Int.toNat_natCast]
  have := natPow (m * setsN g)
  omega
theorem degL_small {g : GenD} (h : DegOk g) : (degL g g.edges.length).length ≤ 2000 := by
  rw [degL_len (Nat.le_refl _)]
  have := h.2.2
  rw [← Int.natCast_mul] at this
  omega
theorem degD_ok {g : GenD} (h : DegOk g) : AutoOk (degD g) := by
  obtain ⟨ho, hl⟩ := isOrd_ordL (degL g g.edges.length)
  have hs := degL_small h
  refine ⟨deg_start h, ?_, fun i hi => ⟨?_, fun h0 => ?_⟩⟩
  · show (ordL _).length ≤ 2000
    omega
  · have hm : (degD g).edges.getD i default ∈ (degD g).edges := getD_mem' hi
    obtain ⟨⟨d, hd, hk⟩, _⟩ := (ho.2 _).1 hm
    have := deg_in h hd
    rw [edK_iff] at hk
    unfold EdgeH at this
    rw [hk.1, hk.2.1, hk.2.2] at this
    exact this
  · have hi2 : i < (ordL (degL g g.edges.length)).length := hi
    have := (List.pairwise_iff_getElem.1 ho.1) (i - 1) i (by omega) hi2 (by omega)
    show edgeLess ((ordL (degL g g.edges.length)).getD (i - 1) default) ((ordL (degL g g.edges.length)).getD i default) = true
    rw [List.getD_eq_getElem?_getD, List.getD_eq_getElem?_getD, List.getElem?_eq_getElem hi2, List.getElem?_eq_getElem (show i - 1 < (ordL (degL g g.edges.length)).length by omega)]
    exact this
theorem deg_make {g : GenD} (h : DegOk g) : MakeOk g.letters (g.states * ((setsN g : Nat) : Int)) ((stN (setsN g) (bitL g.start.toNat 31) : Nat) : Int) (degL g g.edges.length) :=
  ⟨deg_start h, degL_small h, fun i hi => deg_in h (getD_mem' hi)⟩
theorem gkey_uniq {g : GenD} (hg : GenOk g) {d e : GEdgeD} (hd : d ∈ g.edges) (he : e ∈ g.edges) (h : d.src = e.src ∧ d.letter = e.letter ∧ d.dst = e.dst) : d = e := by
  let a : AutoD := ⟨g.letters, g.states, g.start, g.edges.map fun x => ⟨x.src, x.letter, x.dst, false⟩⟩
  have hal : a.edges.length = g.edges.length := by simp [a]
  have hat : ∀ i, i < g.edges.length → a.edges.getD i default = ⟨(g.edges.getD i default).src, (g.edges.getD i default).letter, (g.edges.getD i default).dst, false⟩ := fun i hi => by
    simp [a, List.getD_eq_getElem?_getD, hi]
  have ha : AutoOk a := by
    refine ⟨hg.1, by rw [hal]; exact hg.2.2.1, fun i hi => ?_⟩
    rw [hal] at hi
    obtain ⟨h1, h2⟩ := hg.2.2.2 i hi
    unfold GIn at h1
    refine ⟨?_, fun h0 => ?_⟩
    · unfold EdgeIn
      rw [hat i hi]
      exact ⟨h1.1, h1.2.1, h1.2.2.1⟩
    · rw [hat i hi, hat (i - 1) (by omega)]
      exact h2 h0
  have hp := pair_sorted ha
  rw [List.pairwise_map] at hp
  obtain ⟨i, hi, rfl⟩ := List.getElem_of_mem hd
  obtain ⟨j, hj, rfl⟩ := List.getElem_of_mem he
  have hpi := List.pairwise_iff_getElem.1 hp
  rcases Nat.lt_trichotomy i j with c | c | c
  · have := hpi i j hi hj c
    rw [edgeLess_iff] at this
    dsimp only at this
    omega
  · subst c; rfl
  · have := hpi j i hj hi c
    rw [edgeLess_iff] at this
    dsimp only at this
    omega
theorem div_uniq {a b : Int} {n k m : Nat} (hk : k < n) (hm : m < n) (h : a * ((n : Nat) : Int) + ((k : Nat) : Int) = b * ((n : Nat) : Int) + ((m : Nat) : Int)) : a = b ∧ k = m := by
  have h1 : (a - b) * ((n : Nat) : Int) = ((m : Nat) : Int) - ((k : Nat) : Int) := by rw [Int.sub_mul]; omega
  have h2 : a - b = 0 := by
    rcases Int.lt_trichotomy (a - b) 0 with c | c | c
    · have := Int.mul_le_mul_of_nonneg_right (show a - b ≤ -1 by omega) (show (0 : Int) ≤ ((n : Nat) : Int) by omega)
      omega
    · exact c
    · have := Int.mul_le_mul_of_nonneg_right (show 1 ≤ a - b by omega) (show (0 : Int) ≤ ((n : Nat) : Int) by omega)
      omega
  rw [h2] at h1
  exact ⟨by omega, by omega⟩
theorem mem_degD {g : GenD} (hg : GenOk g) (e : EdgeD) : e ∈ (degD g).edges ↔ ∃ d ∈ g.edges, ∃ k, k < setsN g ∧ degE g.sets.toNat (setsN g) d k = e := by
  rw [← mem_degL]
  obtain ⟨ho, _⟩ := isOrd_ordL (degL g g.edges.length)
  have huniq : ∀ x ∈ degL g g.edges.length, ∀ y ∈ degL g g.edges.length, edK x = edK y → x = y := fun x hx y hy hk => by
    obtain ⟨d, hd, k, h1, rfl⟩ := mem_degL.1 hx
    obtain ⟨d2, hd2, k2, h2, rfl⟩ := mem_degL.1 hy
    rw [edK_iff] at hk
    obtain ⟨k1, k3, k4⟩ := hk
    obtain ⟨e1, e2⟩ := div_uniq h1 h2 k1
    obtain ⟨e3, _⟩ := div_uniq (waitJ_lt rfl h1) (waitJ_lt rfl h2) k4
    rw [gkey_uniq hg hd hd2 ⟨e1, k3, e3⟩, e2]
  have hm := ho.2 e
  show e ∈ ordL _ ↔ _
  rw [hm]
  constructor
  · rintro ⟨⟨d, hd, hk⟩, h2⟩
    have : d = e := edge_ext hk (by
      rw [h2]
      exact ⟨fun h => ⟨d, hd, hk, h⟩, fun ⟨d', hd', hk', hm'⟩ => by rwa [huniq d hd d' hd' (hk.trans hk'.symm)]⟩)
    rw [← this]; exact hd
  · intro he
    exact ⟨⟨e, he, rfl⟩, fun h => ⟨e, he, rfl, h⟩, fun ⟨d, hd, hk, h⟩ => by rwa [huniq d hd e he hk] at h⟩
theorem degD_takes {g : GenD} (h : DegOk g) {s l : List Int} : TakesA (degD g) s l ↔ TakesG g s l := by
  have hn := setsN_pos g
  rw [takesA_iff, takesG_iff]
  have hrun := degen_run h.1 (A := degD g) (w := seqN s l) (fun p => ?_) (mem_degD h.1)
  · rw [hrun]
    exact ⟨fun ⟨_, h2, h3⟩ => ⟨h.1, h2, h3⟩, fun ⟨_, h2, h3⟩ => ⟨degD_ok h, h2, h3⟩⟩
  · show (((stN (setsN g) (bitL g.start.toNat 31) : Nat) : Int)).toNat.testBit p = true ↔ _
    rw [Int.toNat_natCast, stN_bit]
    constructor
    · rintro ⟨s, hs, rfl⟩
      rw [Nat.mul_mod_left, Nat.mul_div_cancel _ hn]
      exact ⟨rfl, (mem_bitL.1 hs).2⟩
    · rintro ⟨h1, h2⟩
      have hst := h.1.1.2.1
      have := bit_lt (gstart_lt h.1) h2
      refine ⟨p / setsN g, mem_bitL.2 ⟨by omega, h2⟩, ?_⟩
      have := Nat.div_add_mod p (setsN g)
      rw [h1, Nat.mul_comm] at this
      omega
end Go.Proofs.Ythanhknkoikbfaa.Ct
namespace Go.Proofs.Ythanhknkoikbfaa.Av
open Go Go.Proofs
def plain : AV → Bool
  | .int _ _ => true
  | .bool _ => true
  | _ => false
def plainV : AV → Value
  | .int k n => .int k n
  | .bool b => .bool b
  | _ => Go.undef
theorem rel_plain {w : World} {own : Nat → Prop} {π : PlF} {N : Nat} {x : AV} {v : Value} (h : plain x = true) : Rel w own π N x v ↔ v = plainV x := by
  cases x with
  | int k n => exact ⟨fun hr => by cases hr; rfl, fun hr => by subst hr; exact .int k n⟩
  | bool b => exact ⟨fun hr => by cases hr; rfl, fun hr => by subst hr; exact .bool b⟩
  | _ => cases h
theorem plain_one {x : AV} (h : plain x = true) : (plainV x).oneCell' = true := by
  cases x with
  | int k n => rfl
  | bool b => rfl
  | _ => cases h
theorem ext_grow {w w' : World} (E : Ext w w' (fun _ => False)) : ∃ q os, w' = Sort.grow (w.drewN q) os := by
  obtain ⟨e1, ⟨e2, e2'⟩, e3, e4, e5⟩ := E
  obtain ⟨h', t', d', o', u'⟩ := w'
  obtain ⟨h, t, d, o, u⟩ := w
  dsimp only at e1 e2 e2' e3 e4 e5
  subst e1 e2 e3
  refine ⟨d' - d, h'.extract h.size h'.size, ?_⟩
  have hh : h' = h ++ h'.extract h.size h'.size := by
    refine Array.ext_getElem? fun b => ?_
    rw [Array.getElem?_append]
    split
    · rename_i hb
      exact e5 b hb (fun h => h)
    · rename_i hb
      rw [Array.getElem?_extract]
      split
      · congr 1; omega
      · exact Array.getElem?_eq_none (by omega)
  have hd : d' = d + (d' - d) := by omega
  show (⟨h', t', d', o', u'⟩ : World) = ⟨h ++ h'.extract h.size h'.size, t', d + (d' - d), o', u'⟩
  rw [← hh, ← hd]
section
variable {P : Program} {α : Type} {row : α → List AV} {k : Nat}
def encR (row : α → List AV) (x : α) : List Value := (row x).map plainV
theorem encR_at {x : α} {j : Nat} {c : AV} (h : (row x)[j]? = some c) : (encR row x)[j]! = plainV c := by
  simp [encR, List.getElem!_eq_getElem?_getD, List.getElem?_map, h]
theorem rel_encR (hrow : ∀ x, (row x).length = k ∧ ∀ c ∈ row x, plain c = true) {w : World} {own : Nat → Prop} {π : PlF} {N : Nat} (x : α) : Rel w own π N (.agg (row x)) (.agg (encR row x).toArray) := by
  refine .agg _ _ (by simp [encR]) (fun i c u h1 h2 => ?_)
  have hm := List.mem_of_getElem? h1
  rw [rel_plain ((hrow x).2 c hm)]
  simp only [encR, List.getElem?_toArray, List.getElem?_map, h1, Option.map_some, Option.some.injEq] at h2
  exact h2.symm
variable [Inhabited α]
theorem cmp_lays (hrow : ∀ x, (row x).length = k ∧ ∀ c ∈ row x, plain c = true) {cf : α → α → Int} {g : Nat} {R : List AV → AV → List AObj → Prop} (hg : PureSound P g R) (hR : ∀ x y, R [.agg (row x), .agg (row y)] (.int .i64 (cf x y)) [])
    (blk off size : Nat) (w : World) : CmpLays P g #[] (encR row) k cf blk off size w := by
  intro m os dk hs x y
  have h := hg (sortWorldK (encR row) k w blk off m dk os) (fun _ => False) [.agg (row x), .agg (row y)] (#[.agg (encR row x).toArray, .agg (encR row y).toArray] ++ #[]) _ _ ⟨rfl, ?_⟩ (hR x y)
  · refine h.mono ?_
    rintro e w' ⟨v, π, rfl, E, _, hv⟩
    cases hv
    exact ⟨rfl, ext_grow E⟩
  · intro i c v h1 h2
    match i with
    | 0 => cases h1; cases h2; exact rel_encR hrow x
    | 1 => cases h1; cases h2; exact rel_encR hrow y
    | i + 2 => cases h1
def GSort {α : Type} (row : α → List AV) (k : Nat) (cf : α → α → Int) (g : Nat) : GFun := fun xs objs Q => ∃ d : List α, xs = [.ref 0 0 d.length, .fn g []] ∧ objs = [.arr k (d.map row)] ∧ d.length ≤ 1000000 ∧
  ∀ d' : List α, d'.Perm d → (d'.Pairwise fun x y => ¬ cf y x < 0) → Q (.tup []) [some (.arr k (d'.map row))]
theorem sort_sound {ρ : Go.Shelf.Ren} (L : SlLaysF0.n6 P ρ) (hk0 : 0 < k) (aE : ∀ w, (isAgg (ρ.t 24)).run P w = .ok true w) (zE : ∀ w, (Go.sizeOf (ρ.t 24)).run P w = .ok k w) (hrow : ∀ x, (row x).length = k ∧ ∀ c ∈ row x, plain c = true)
    {cf : α → α → Int} (hO : Go.Sort.SWO (ltOf cf)) {g : Nat} (eg : ∀ args w, (callFunc g args).run P w = .ok (.enter g args) w) {R : List AV → AV → List AObj → Prop} (hg : PureSound P g R) (hR : ∀ x y, R [.agg (row x), .agg (row y)] (.int .i64 (cf x y)) []) :
    GenSound P (ρ.f 6) 1 (GSort row k cf g) := by
  rintro w own0 π objs xs vs Q - hs0 hr ⟨d, rfl, rfl, hlen, hQ⟩
  obtain ⟨hvl, hrel⟩ := hr
  obtain ⟨l⟩ := vs
  match l, hvl, hrel with
  | [v1, v2], _, hrel =>
    have r1 := hrel 0 _ _ rfl rfl
    have r2 := hrel 1 _ _ rfl rfl
    generalize hx1 : AV.ref 0 0 d.length = x1 at r1
    generalize hx2 : AV.fn g [] = x2 at r2
    have hv2 : v2 = .func (.func g) #[] #[] := by
      cases r2 with
      | fn f caps cs hl h =>
        cases hx2
        rw [Array.eq_empty_of_size_eq_zero hl]
      | _ => cases hx2
    subst hv2
    by_cases hd : d = []
    · subst hd
      have hsl : ∃ p cap, v1 = .slice p 0 cap := by cases r1 <;> cases hx1 <;> exact ⟨_, _, rfl⟩
      obtain ⟨p, cap, rfl⟩ := hsl
      refine (AnyF.slices_SortFunc_none L p cap _ w).mono ?_
      rintro e w' ⟨rfl, rfl⟩
      refine ⟨.tuple #[], π, .tup [], [some (.arr k ([].map row))], rfl, hQ [] (List.Perm.refl _) List.Pairwise.nil, Nat.le_refl _, ⟨rfl, ⟨rfl, Nat.le_refl _⟩, rfl, Nat.le_refl _, fun _ _ _ => rfl⟩, fun _ _ h => .inl h, fun _ h => .inr h, ?_, .tup [] #[] rfl (fun i x u h1 _ => by cases h1)⟩
      have e : objsO [some (.arr k ([].map row))] = objsH [.arr k (List.map row [])] := by
        funext i
        match i with
        | 0 => rfl
        | i + 1 => rfl
      rw [e]; exact hs0
    · obtain ⟨_, p, hp, hob⟩ := hs0.obj 0 (.arr k (d.map row)) rfl
      obtain ⟨hsz, hfr, hbk⟩ := hob
      cases hb : p.blk with
      | none =>
        simp only [hb] at hbk
        exact absurd (List.map_eq_nil_iff.1 hbk) hd
      | some b =>
        simp only [hb] at hbk
        obtain ⟨cur, el, c1, c2, c3, c4, c5⟩ := hbk
        rw [List.length_map] at c3
        have hsl : ∃ cap, v1 = .slice (some ⟨b, 0, none⟩) d.length cap := by
          cases r1 with
          | refLive id off len b' cap p' hp' hb' h1 h2 =>
            cases hx1
            rw [hp] at hp'; cases hp'
            rw [hb] at hb'; cases hb'
            exact ⟨cap, by rw [Nat.zero_mul]⟩
          | refEnd id off o b' p' hp' hb' =>
            injection hx1 with _ _ h3
            exact absurd (List.eq_nil_of_length_eq_zero h3) hd
          | refNil id a p' hp' hb' =>
            injection hx1 with _ _ h3
            exact absurd (List.eq_nil_of_length_eq_zero h3) hd
          | refDead id off len a cap hp' hn =>
            injection hx1 with h1 _ _
            subst h1
            rw [hp] at hp'; cases hp'
          | _ => cases hx1
        obtain ⟨cap, rfl⟩ := hsl
        have hcell : ∀ (i j : Nat), i < d.length → j < k → cur[i * k + j]? = some ((encR row d.toArray[i]!)[j]!) := fun i j hi hj => by
          have h1 : (d.map row)[i]? = some (row d.toArray[i]!) := by
            rw [List.getElem?_map, List.getElem?_eq_getElem hi]
            simp [hi]
          have hrl := (hrow d.toArray[i]!).1
          have h2 : (row d.toArray[i]!)[j]? = some (row d.toArray[i]!)[j] := List.getElem?_eq_getElem (by omega)
          have hlt : i * k + j < cur.size := by
            rw [c2]
            have := Nat.mul_le_mul_right k (show i + 1 ≤ p.cap by omega)
            rw [Nat.add_mul] at this
            omega
          have h3 : cur[i * k + j]? = some cur[i * k + j] := Array.getElem?_eq_getElem hlt
          have h4 := c5 i j _ _ _ h1 h2 h3
          rw [rel_plain ((hrow _).2 _ (List.getElem_mem _))] at h4
          rw [h3, h4, encR_at h2]
        have hH : Go.Sort.HoldsK (encR row) k w b 0 d.toArray := by
          intro t ht
          rw [Go.Sort.size_flatK] at ht
          have ht' : t < d.length * k := by simpa using ht
          have hdiv : t / k < d.length := Nat.div_lt_of_lt_mul (by rwa [Nat.mul_comm])
          have hmod : t % k < k := Nat.mod_lt _ hk0
          have hc := hcell (t / k) (t % k) hdiv hmod
          rw [Nat.div_add_mod'] at hc
          rw [Go.Sort.get_flatK _ _ _ _ (by simpa using ht'), Nat.zero_add]
          constructor
          · simp [World.cell?, c1, hc]
          · simp [World.frozen?, c1]
        have hrun := AnyQ.slices_SortFunc L k aE zE (encR row) (fun x => by simp [encR, (hrow x).1]) (fun x v hv => by
          obtain ⟨c, hc, rfl⟩ := List.mem_map.1 hv
          exact plain_one ((hrow x).2 c hc)) cf hO g #[] b 0 cap d.toArray w eg (cmp_lays hrow hg hR b 0 d.toArray.size w) hH (Array.getElem?_eq_some_iff.1 c1).1 (by simp; omega)
        have hsd : d.toArray.size = d.length := by simp
        rw [hsd] at hrun
        refine hrun.mono ?_
        rintro e w' ⟨rfl, dA, m, os, hperm, hsort, rfl⟩
        obtain ⟨p1, _, p3⟩ := hperm
        have p1' : dA.size = d.length := by simpa using p1
        have hperm' : dA.toList.Perm d := by
          have e1 : (dA.extract 0 d.length).toList = dA.toList := by
            rw [← p1', Array.extract_size]
          have e2 : (d.toArray.extract 0 d.length).toList = d := by simp
          rw [e1, e2] at p3
          exact p3
        have hpw : dA.toList.Pairwise fun x y => ¬ cf y x < 0 := by
          rw [List.pairwise_iff_getElem]
          intro i j hi hj hij
          have h := hsort i j (Nat.zero_le _) hij (by simpa [p1'] using hj)
          have hi' : i < dA.size := by simpa using hi
          have hj' : j < dA.size := by simpa using hj
          simp only [ltOf, decide_eq_false_iff_not, getElem!_pos dA i hi', getElem!_pos dA j hj'] at h
          simpa using h
        -- the world with the row written
        let w1 : World := Go.Sort.putRowK (encR row) k (Go.Sort.ahead w m) b 0 dA
        have hw1 : ∀ j, j ≠ b → w1.heap[j]? = w.heap[j]? := fun j hj => by
          show (w.heap.modify b _)[j]? = _
          rw [Array.getElem?_modify, if_neg (Ne.symm hj)]
        have hw1b : w1.heap[b]? = some (.cells (Go.Sort.putCells id 0 (Go.Sort.flatK (encR row) k dA) cur) el (0, 0)) := by
          show (w.heap.modify b _)[b]? = _
          rw [Array.getElem?_modify, if_pos rfl, c1]
          rfl
        have hsz1 : w1.heap.size = w.heap.size := by
          show (w.heap.modify b _).size = _
          simp
        have W : Writes own0 π (objsH [.arr k (d.map row)]) 1 w 0 p b w1 := ⟨hs0, hp, hb, hsz1, rfl, ⟨rfl, Nat.le_add_right _ _⟩, rfl, hw1⟩
        have F : Fr w π.has π w := ⟨rfl, ⟨rfl, Nat.le_refl _⟩, rfl, Nat.le_refl _, fun _ _ _ => rfl, fun id p b h1 h2 => .inr (.inl ⟨id, p, h1, h2⟩), fun b k hb => .inr (.inr (by rw [hb]; rfl))⟩
        have G1 := W.go F (o := .arr k (dA.toList.map row)) (by
          refine ⟨hsz, fun i rw' hr' => ?_, ?_⟩
          · simp only [List.getElem?_map, Option.map_eq_some_iff] at hr'
            obtain ⟨x, _, rfl⟩ := hr'
            refine ⟨(hrow x).1, fun c hc => ?_⟩
            have := (hrow x).2 c hc
            cases c with
            | int k n => rfl
            | bool b => rfl
            | _ => cases this
          · simp only [hb]
            refine ⟨_, el, hw1b, ?_, ?_, c4, ?_⟩
            · rw [← c2]; simp [Go.Sort.putCells]
            · rw [List.length_map]; simp only [Array.length_toList, p1']; exact c3
            · intro i j rw' x u h1 h2 h3
              simp only [List.getElem?_map, Option.map_eq_some_iff] at h1
              obtain ⟨y, hy, rfl⟩ := h1
              have hi : i < dA.size := by
                have := (List.getElem?_eq_some_iff.1 hy).1
                simpa using this
              have hyi : dA[i]! = y := by
                rw [getElem!_pos dA i hi]
                have := (List.getElem?_eq_some_iff.1 hy).2
                simpa using this
              have hj : j < k := by
                have := (List.getElem?_eq_some_iff.1 h2).1
                rw [(hrow y).1] at this; exact this
              have hpl := (hrow y).2 x (List.mem_of_getElem? h2)
              rw [rel_plain hpl]
              have hlt : i * k + j < dA.size * k := by
                have := Nat.mul_le_mul_right k (show i + 1 ≤ dA.size by omega)
                rw [Nat.add_mul] at this
                omega
              have hlt2 : i * k + j < cur.size := (Array.getElem?_eq_some_iff.1 h3).1 |> fun h => by simpa [Go.Sort.putCells] using h
              have e1 : (i * k + j) / k = i := (Go.Sort.blk_iff k i _ hk0).1 ⟨by omega, by omega⟩
              have e2 : (i * k + j) % k = j := by rw [Nat.mod_eq_sub_div_mul, e1]; omega
              have hx : (encR row y)[j]! = plainV x := encR_at h2
              simp only [Go.Sort.putCells, Array.getElem?_mapIdx, Array.getElem?_eq_getElem hlt2, Option.map_some, Option.some.injEq, Nat.zero_le, true_and, Nat.zero_add, Go.Sort.size_flatK, if_pos hlt, Nat.sub_zero, id_eq, Go.Sort.get_flatK _ _ _ _ hlt, e1, e2, hyi, hx] at h3
              exact h3.symm)
        have E2 : Ext w1 (sortWorldK (encR row) k w b 0 m dA os) (fun _ => False) := by
          refine ⟨rfl, ⟨rfl, Nat.le_refl _⟩, rfl, ?_, fun j hj _ => ?_⟩
          · show w1.heap.size ≤ (w1.heap ++ os).size
            simp
          · show (w1.heap ++ os)[j]? = _
            rw [Array.getElem?_append, if_pos hj]
        have hkp : ∀ j, j < w1.heap.size → (sortWorldK (encR row) k w b 0 m dA os).heap[j]? = w1.heap[j]? := fun j hj => E2.kept j hj (fun h => h)
        have M2 : Mono own0 π π 1 1 w1 (sortWorldK (encR row) k w b 0 m dA os) := ⟨E2.size, fun j hj ho => ⟨hkp j hj, ho⟩, fun id q hq => ⟨.inl hq, (G1.hs.lt hq).1⟩, fun _ hq _ => hq, Nat.le_refl _, E2.os, E2.tape, E2.output⟩
        have H2 := G1.hs.mono M2 hkp
        have e : objsO [some (.arr k (dA.toList.map row))] = (objsH [.arr k (d.map row)]).set 0 (.arr k (dA.toList.map row)) := by
          funext i
          match i with
          | 0 => rfl
          | i + 1 => rfl
        refine ⟨.tuple #[], π, .tup [], [some (.arr k (dA.toList.map row))], rfl, hQ dA.toList hperm' hpw, Nat.le_refl _, ⟨E2.os.trans G1.fr.os, E2.tape.trans G1.fr.tape, E2.output.trans G1.fr.output, Nat.le_trans G1.fr.size E2.size, fun j hj hno => (hkp j (by rw [hsz1]; exact hj)).trans (G1.fr.kept j hj hno)⟩, fun _ _ h => .inl h, fun _ h => .inr h, ?_, .tup [] #[] rfl (fun i x u h1 _ => by cases h1)⟩
        rw [e]
        exact H2
end
end Go.Proofs.Ythanhknkoikbfaa.Av
namespace Go.Proofs.Ythanhknkoikbfaa.Ct
open Go Go.Proofs Go.Shelf Go.Proofs.Ythanhknkoikbfaa.Av
def sortE_ren : Go.Shelf.Ren := ⟨fun | 6 => 198 | 15 => 209 | 14 => 208 | 28 => 219 | 29 => 220 | 20 => 211 | 21 => 212 | 22 => 213 | 23 => 214 | 24 => 215 | 25 => 216 | 26 => 217 | 27 => 218 | 46 => 221 | 47 => 222 | 48 => 223 | 49 => 224 | 50 => 225 | 57 => 226 | n => n, fun | 22 => 27 | 24 => 101 | 25 => 161 | 3 => 3 | 39 => 134 | 0 => 0 | 53 => 196 | 55 => 198 | 4 => 4 | 46 => 224 | 45 => 223 | 50 => 65 | 5 => 5 | 9 => 9 | 66 => 229 | 70 => 233 | 76 => 235 | 77 => 205 | n => n, fun | n => n⟩
theorem sortE : SlLaysF0.n6 Try.prog sortE_ren := {
  mixed := by kernel_rfl
  f6 := ⟨Try.f198.name, by decide, Try.func198.trans (congrArg some (by kernel_rfl))⟩
  f14 := ⟨Try.f208.name, by decide, Try.func208.trans (congrArg some (by kernel_rfl))⟩
  f15 := Try.func209.trans (congrArg some (by kernel_rfl))
  f20 := ⟨Try.f211.name, by decide, Try.func211.trans (congrArg some (by kernel_rfl))⟩
  f21 := ⟨Try.f212.name, by decide, Try.func212.trans (congrArg some (by kernel_rfl))⟩
  f22 := ⟨Try.f213.name, by decide, Try.func213.trans (congrArg some (by kernel_rfl))⟩
  f23 := ⟨Try.f214.name, by decide, Try.func214.trans (congrArg some (by kernel_rfl))⟩
  f24 := ⟨Try.f215.name, by decide, Try.func215.trans (congrArg some (by kernel_rfl))⟩
  f25 := ⟨Try.f216.name, by decide, Try.func216.trans (congrArg some (by kernel_rfl))⟩
  f26 := ⟨Try.f217.name, by decide, Try.func217.trans (congrArg some (by kernel_rfl))⟩
  f27 := ⟨Try.f218.name, by decide, Try.func218.trans (congrArg some (by kernel_rfl))⟩
  f28 := Try.func219.trans (congrArg some (by kernel_rfl))
  f29 := Try.func220.trans (congrArg some (by kernel_rfl))
  f46 := ⟨Try.f221.name, by decide, Try.func221.trans (congrArg some (by kernel_rfl))⟩
  f47 := Try.func222.trans (congrArg some (by kernel_rfl))
  f48 := Try.func223.trans (congrArg some (by kernel_rfl))
  f49 := ⟨Try.f224.name, by decide, Try.func224.trans (congrArg some (by kernel_rfl))⟩
  f50 := ⟨Try.f225.name, by decide, Try.func225.trans (congrArg some (by kernel_rfl))⟩
  f57 := ⟨Try.f226.name, by decide, Try.func226.trans (congrArg some (by kernel_rfl))⟩
  t0 := Try.underlying0
  a0 := Try.isAgg0
  z0 := Try.sizeOf0
  v0 := Try.zeroValue0
  t3 := Try.underlying3
  a3 := Try.isAgg3
  z3 := Try.sizeOf3
  v3 := Try.zeroValue3
  t4 := Try.underlying4
  a4 := Try.isAgg4
  z4 := Try.sizeOf4
  v4 := Try.zeroValue4
  t5 := Try.underlying5
  a5 := Try.isAgg5
  z5 := Try.sizeOf5
  v5 := Try.zeroValue5
  t9 := Try.underlying9
  a9 := Try.isAgg9
  z9 := Try.sizeOf9
  v9 := Try.zeroValue9
  t22 := Try.underlying27
  a22 := Try.isAgg27
  z22 := Try.sizeOf27
  v22 := Try.zeroValue27
  t25 := Try.underlying161
  a25 := Try.isAgg161
  z25 := Try.sizeOf161
  v25 := Try.zeroValue161
  t39 := Try.underlying134
  a39 := Try.isAgg134
  z39 := Try.sizeOf134
  v39 := Try.zeroValue134
  t45 := Try.underlying223
  a45 := Try.isAgg223
  z45 := Try.sizeOf223
  v45 := Try.zeroValue223
  t46 := Try.underlying224
  a46 := Try.isAgg224
  z46 := Try.sizeOf224
  v46 := Try.zeroValue224
  t50 := Try.underlying65
  a50 := Try.isAgg65
  z50 := Try.sizeOf65
  v50 := Try.zeroValue65
  t53 := Try.underlying196
  a53 := Try.isAgg196
  z53 := Try.sizeOf196
  v53 := Try.zeroValue196
  t55 := Try.underlying198
  a55 := Try.isAgg198
  z55 := Try.sizeOf198
  v55 := Try.zeroValue198
  t66 := Try.underlying229
  a66 := Try.isAgg229
  z66 := Try.sizeOf229
  v66 := Try.zeroValue229
  t70 := Try.underlying233
  a70 := Try.isAgg233
  z70 := Try.sizeOf233
  v70 := Try.zeroValue233
  t76 := Try.underlying235
  a76 := Try.isAgg235
  z76 := Try.sizeOf235
  v76 := Try.zeroValue235
  t77 := Try.underlying205
  a77 := Try.isAgg205
  z77 := Try.sizeOf205
  v77 := Try.zeroValue205 }
end Go.Proofs.Ythanhknkoikbfaa.Ct
namespace Go.Proofs.Ythanhknkoikbfaa.Ct
open Go Go.Proofs Go.Proofs.Ythanhknkoikbfaa.Av
def c_slices_Clone_impl_Edge_impl_Edge : ICode := (.seq (.reg [Ol 2 .mv [.c .snil]]) (.seq (.seq (.reg [O1 3 .mv 0, O1 4 (.bnil false) 3]) (.cond (.t 4) (.seq (.reg [Ol 2 .mv [.c .snil]]) .ret) .skip)) (.seq (.reg [O0 5 .bsle, O1 6 .mv 0, O2 7 (.app 4 32) 5 6, O1 2 .mv 7]) .ret)))
theorem b_slices_Clone_impl_Edge_impl_Edge : Body Try.prog 197 8 c_slices_Clone_impl_Edge_impl_Edge [(.t 2)] := body_mk Try.func197 (by kernel_rfl) (by decide)
def c_impl_ordered : ICode := (.seq (.reg [Ol 2 .mv [.c .snil]]) (.seq (.reg [O1 8 .mv 0, O1 9 (.call 197) 8, O1 3 .mv 9]) (.seq (.reg [O1 10 .mv 3, Ol 11 (.call 198) [.t 10, .c (.fn 157 [])]]) (.seq (.reg [Ol 4 .mv [.c .snil]]) (.seq (.seq (.reg [O1 12 .mv 3, O1 13 .len 12, Ol 14 .mv [ci 0]]) (.block 0 (.loop (.seq (.reg [O2 15 (.bin .lss) 14 13]) (.seq (.cond (.t 15) .skip (.exit 0)) (.seq (.block 1 (.seq (.reg [O2 16 (.iadr 4) 12 14, O1 17 (.ldn 4) 16, O0 6 (.alc [(.int .i64 0), (.int .i64 0), (.int .i64 0), (.bool false)]), S2 (.st 4) 6 17]) (.seq (.reg [O1 18 .mv 4, O1 19 .len 18, Ol 20 (.bin .sub) [.t 19, ci 1], O1 7 .mv 20]) (.seq (.drw [O1 21 .mv 7, Ol 22 (.bin .geq) [.t 21, ci 0], O1 23 .mv 22, Og 24 .mv [.t 4] 23 true, Og 25 .mv [.t 7] 23 true, Og 26 (.iadr 4) [.t 24, .t 25] 23 true, Og 27 (.ldn 4) [.t 26] 23 true, Og 28 (.ldn 4) [.t 6] 23 true, Og 29 (.call 157) [.t 27, .t 28] 23 true, Og 30 (.bin .eql) [.t 29, ci 0] 23 true, Ol 31 .pick [.t 23, .t 30, cb false]] (unB [0, 1, 3, 7, 7, 31, 63, 7, 255, 511, 1023] 0) true true) (.cond (.t 31) (.reg [O1 32 .mv 4, O1 33 .mv 7, O1 34 .mv 4, O1 35 .mv 7, O2 36 (.iadr 4) 34 35, O1 37 (.fadr 3) 36, O1 38 .ld1 37, O1 39 .mv 38, Og 40 (.fadr 3) [.t 6] 39 false, Og 41 .ld1 [.t 40] 39 false, Ol 42 .pick [.t 39, cb true, .t 41], O2 43 (.iadr 4) 32 33, O1 44 (.fadr 3) 43, S2 (.st 1) 44 42]) (.reg [O1 45 .mv 4, O1 46 (.ldn 4) 6, O1 47 (.bslv 4) 46, O2 48 (.app 4 32) 45 47, O1 4 .mv 48])))))) (.reg [Ol 49 (.bin .add) [.t 14, ci 1], O1 14 .mv 49]))))))) (.seq (.reg [O1 50 .mv 4, O1 2 .mv 50]) .ret))))))
theorem b_impl_ordered : Body Try.prog 151 51 c_impl_ordered [(.t 2)] := body_mk Try.func151 (by kernel_rfl) (by decide)
def c_impl_rightAuto : ICode := (.seq (.reg [O1 1 (.box 4) 0, O0 2 (.alc [(.int .i64 0), (.int .i64 0), (.int .i64 0), .snil]), Ol 3 .mv [cb false]]) (.seq (.seq (.reg [O1 4 (.ldn 4) 1, O1 5 (.call 70) 4, O1 6 .not 5]) (.cond (.t 6) (.seq (.reg [O0 7 (.bld [(.int .i64 0), (.int .i64 0), (.int .i64 0), .snil] []), S2 (.st 4) 2 7, Ol 3 .mv [cb false]]) .ret) .skip)) (.seq (.reg [O1 8 (.ldn 4) 1, S2 (.st 4) 2 8, Ol 3 .mv [cb true]]) .ret)))
theorem b_impl_rightAuto : Body Try.prog 152 9 c_impl_rightAuto [(.cn 2 4), (.t 3)] := body_mk Try.func152 (by kernel_rfl) (by decide)
theorem cmpE_neg {x y : EdgeD} : cmpE x y < 0 ↔ edgeLess x y = true := by
  rw [← Bool.not_eq_false, ← cmpE_less]; omega
theorem cmpE_zero {x y : EdgeD} : cmpE x y = 0 ↔ edK x = edK y := by
  rw [edK_iff]
  simp only [cmpE, orI, cmpI]
  (repeat' split) <;> simp_all <;> omega
theorem swoE : Go.Sort.SWO (ltOf cmpE) where
  irrefl x := by
    rw [ltOf, decide_eq_false_iff_not, cmpE_neg]; exact less_irrefl rfl
  trans x y z h1 h2 := by
    rw [ltOf, decide_eq_true_eq, cmpE_neg] at *; exact less_trans h1 h2
  ntrans x y z h1 h2 := by
    rw [ltOf, decide_eq_false_iff_not, cmpE_neg] at *
    rw [edgeLess_iff] at *; omega
theorem edgeRow_plain (x : EdgeD) : (edgeRow x).length = 4 ∧ ∀ c ∈ edgeRow x, plain c = true := by
  refine ⟨rfl, fun c hc => ?_⟩
  simp only [edgeRow, List.mem_cons, List.not_mem_nil, or_false] at hc
  rcases hc with rfl | rfl | rfl | rfl <;> rfl
abbrev GSortE : GFun := GSort edgeRow 4 cmpE 157
theorem GSortE_mk {d : List EdgeD} {Q : AV → List (Option AObj) → Prop} (h : d.length ≤ 1000000) (hq : ∀ d' : List EdgeD, d'.Perm d → (d'.Pairwise fun x y => ¬ cmpE y x < 0) → Q (.tup []) [some (.arr 4 (edgeRows d'))]) : GSortE [.ref 0 0 d.length, .fn 157 []] [.arr 4 (edgeRows d)] Q := ⟨d, rfl, rfl, h, hq⟩
theorem s_slices_SortFuncE : GenSound Try.prog 198 1 GSortE :=
  sort_sound (ρ := sortE_ren) sortE (by decide) Try.isAgg101 Try.sizeOf101 edgeRow_plain swoE (enters_of Try.func157 (by kernel_rfl) rfl) s_impl_compareEdges (fun x y => RCompareE_mk)
theorem hasSort : HasBody Try.prog 198 := ⟨_, Try.func198, rfl, by decide⟩
theorem edges_w {l : List EdgeD} : ∀ r ∈ edgeRows l, r.length = 4 := by
  intro r hr
  obtain ⟨x, _, rfl⟩ := List.mem_map.1 hr
  rfl
def RCloneE (xs : List AV) (r : AV) (objs : List AObj) : Prop := ∃ l : List EdgeD, xs = [.val (edgeRows l)] ∧ l.length ≤ 1048576 ∧ r = .ref 0 0 l.length ∧ objs = [.arr 4 (edgeRows l)]
theorem RCloneE_eq {xs : List AV} {l : List EdgeD} (hx : xs = [.val (edgeRows l)]) (h : l.length ≤ 1048576) : RCloneE xs (.ref 0 0 l.length) [.arr 4 (edgeRows l)] := ⟨l, hx, h, rfl, rfl⟩
theorem s_slices_CloneE : PureSound Try.prog 197 RCloneE := by
  have hR : Rely Try.prog (ctxOf []) := rely_nil mixed
  refine pure_of_aw b_slices_Clone_impl_Edge_impl_Edge ?_
  rintro xs r objs ⟨l, rfl, h1, rfl, rfl⟩ -
  have hle := length_edgeRows l
  refine ⟨by simp, vc2_sound hR _ _ _ _ _ ?_⟩
  conv => whnf
  repeat' ((first | contradiction | (refine And.intro (fun hb => ?_) (fun hb => ?_) <;> first | contradiction | ((try simp only [SB, reduceCtorEq] at hb); try (exfalso; first | contradiction | omega))) | refine G2 ?_ | rw [ints_at (by omega)] | rw [ints_at0 (by omega)] | rw [ints_at' (by omega) (by omega)] | refine G1 ?_ | refine And.intro edges_w ?_ | fail) <;> conv => whnf)
  · have hl : l = [] := by simpa [edgeRows] using hb
    subst hl
    refine ⟨.inl rfl, ?_⟩
    conv => whnf
    exact ⟨[none], ⟨rfl, And.intro rfl trivial⟩, ⟨rfl, rfl, rfl⟩, rfl, rfl⟩
  · refine ⟨.inl rfl, ?_⟩
    conv => whnf
    exact ⟨[some 0], ⟨rfl, And.intro (And.intro rfl rfl) trivial⟩, congrArg (AV.ref 0 0) hle, rfl, by simp [AObj.nov, edgeRows_nov]⟩
def ROrdered (xs : List AV) (r : AV) (objs : List AObj) : Prop := ∃ es : List EdgeD, xs = [.val (edgeRows es)] ∧ es.length ≤ 100000 ∧ r = .ref 0 0 (ordL es).length ∧ objs = [.arr 4 (edgeRows (ordL es))]
theorem ROrdered_eq {xs : List AV} {es : List EdgeD} (hx : xs = [.val (edgeRows es)]) (h : es.length ≤ 100000) : ROrdered xs (.ref 0 0 (ordL es).length) [.arr 4 (edgeRows (ordL es))] := ⟨es, hx, h, rfl, rfl⟩
theorem keep_appE {M : List EdgeD} {e : EdgeD} : List.take M.length (edgeRows M) ++ [edgeRow e] = edgeRows (M ++ [e]) := by
  rw [List.take_of_length_le (by rw [length_edgeRows]; exact Nat.le_refl _)]
  simp [edgeRows]
theorem edge_lset {o : List EdgeD} {z : EdgeD} {b c : Bool} {i : Nat} (hi : i = o.length) (hb : b = c) : (edgeRows (o ++ [z])).set i (setCells (edgeRow z) 3 [.bool b]) = edgeRows (o ++ [⟨z.src, z.letter, z.dst, c⟩]) := by
  subst hi hb
  simp [edgeRows]
  rfl
theorem edge_last {o : List EdgeD} {z : EdgeD} : (edgeRows (o ++ [z]))[0 + (((o.length + 1 : Nat) : Int) - 1).toNat]? = some (edgeRow z) := by
  rw [show 0 + (((o.length + 1 : Nat) : Int) - 1).toNat = o.length by omega]
  simp [edgeRows]
theorem edge_at0 {es : List EdgeD} {i : Nat} (h : i < es.length) : (edgeRows es)[0 + ((i : Nat) : Int).toNat]? = some (edgeRow (es.getD i default)) := by
  rw [Nat.zero_add]; exact edge_at h
set_option maxHeartbeats 4000000 in
theorem s_impl_ordered : PureSound Try.prog 151 ROrdered := by
  have hR : Rely Try.prog (ctxOf [(197, .pure RCloneE), (198, .gen 1 GSortE), (157, .pure RCompareE)]) :=
    rely_cons b_slices_Clone_impl_Edge_impl_Edge.has s_slices_CloneE (rely_cons hasSort s_slices_SortFuncE (rely_cons b_impl_compareEdges.has s_impl_compareEdges (rely_nil mixed)))
  refine pure_of_aw b_impl_ordered ?_
  rintro xs r objs ⟨es, rfl, h1, rfl, rfl⟩ -
  refine ⟨by simp, vc2_sound hR _ _ _ _ _ ?_⟩
  conv => whnf
  repeat' ((first | (refine And.intro (fun hb => ?_) (fun hb => ?_) <;> ((try simp only [SB, reduceCtorEq] at hb); try (exfalso; omega))) | refine G2 ?_ | rw [ints_at (by omega)] | rw [ints_at0 (by omega)] | rw [ints_at' (by omega) (by omega)] | refine G1 ?_ | refine ⟨_, _, RCloneE_eq (l := es) rfl (by omega), ?_⟩ | refine ⟨GSortE_mk (d := es) (by omega) (fun L hp hw => ?_)⟩ | fail) <;> conv => whnf)
  have hn : L.length = es.length := hp.length_eq
  refine Lp.intro (α := List EdgeD × Nat) (fun c => c.2 ≤ es.length ∧ IsOrd (L.take c.2) c.1 ∧ c.1.length ≤ c.2) (fun c => es.length - c.2)
    (fun c => [(4, .ref 1 0 c.1.length), (12, .ref 0 0 es.length), (13, .int .i64 es.length), (14, .int .i64 c.2)]) (fun c => [some (.arr 4 (edgeRows L)), some (.arr 4 (edgeRows c.1))]) ?_ ?_
  · refine ⟨([], 0), ⟨Nat.zero_le _, by rw [List.take_zero]; exact isOrd_nil, Nat.le_refl _⟩, [some 0, none], rfl, rfl, And.intro ⟨rfl, rfl⟩ (And.intro rfl trivial), ?_⟩
    exact ⟨⟨rfl, rfl, rfl⟩, rfl, .inl rfl, .inl rfl, trivial⟩
  rintro ⟨out, i⟩ ⟨hi, ho, hol⟩
  dsimp only at hi ho hol ⊢
  have hLr := length_edgeRows L
  have hOr := length_edgeRows out
  refine vc2_sound hR _ _ _ _ _ ?_
  by_cases hlt : i < es.length
  · have hat := edge_at0 (es := L) (i := i) (by omega)
    have hs : ∀ d ∈ L.take i, ¬ edgeLess (L.getD i default) d = true := fun d hd => by
      obtain ⟨j, hj, rfl⟩ := List.getElem_of_mem hd
      rw [List.length_take] at hj
      have := List.pairwise_iff_getElem.1 hw j i (by omega) (by omega) (by omega)
      rw [cmpE_neg] at this
      rw [List.getElem_take, List.getD_eq_getElem?_getD, List.getElem?_eq_getElem (by omega)]
      exact this
    have hts : L.take (i + 1) = L.take i ++ [L.getD i default] := by
      rw [List.take_add_one, List.getElem?_eq_getElem (by omega), List.getD_eq_getElem?_getD, List.getElem?_eq_getElem (by omega)]; rfl
    generalize L.getD i default = e at *
    rcases List.eq_nil_or_concat out with h0 | ⟨o, z, h0⟩
    · subst h0
      have hnew := ord_new (e := e) ho hs (fun o z hz => by simp at hz)
      conv => whnf
      repeat' ((first | contradiction | (refine And.intro (fun hb => ?_) (fun hb => ?_) <;> first | contradiction | ((try simp only [SB, reduceCtorEq] at hb); try (exfalso; first | contradiction | omega))) | rw [hat] | refine G2 ?_ | rw [ints_at (by omega)] | rw [ints_at0 (by omega)] | rw [ints_at' (by omega) (by omega)] | refine G1 ?_ | fail) <;> conv => whnf)
      refine ⟨([e], i + 1), ⟨hlt, by dsimp only; rw [hts]; exact hnew, by simp⟩, by dsimp only; omega, [some 0, some 3], rfl, rfl, And.intro ⟨rfl, rfl⟩ (And.intro ⟨rfl, keep_appE⟩ trivial), ⟨rfl, rfl, .inl rfl, .inl rfl, trivial⟩⟩
    · rw [List.concat_eq_append] at h0
      subst h0
      have hzl := edge_last (o := o) (z := z)
      rw [← show (o ++ [z]).length = o.length + 1 by simp] at hzl
      have hol2 : o.length + 1 ≤ i := by simpa using hol
      have hll : (o ++ [z]).length = o.length + 1 := by simp
      by_cases hk : cmpE z e = 0
      · have hos := ord_same (e := e) ho (cmpE_zero.1 hk)
        conv => whnf
        repeat' ((first | contradiction | (refine And.intro (fun hb => ?_) (fun hb => ?_) <;> first | contradiction | ((try simp only [SB, reduceCtorEq] at hb); try (exfalso; first | contradiction | omega))) | rw [hat] | rw [hzl] | refine G2 ?_ | rw [ints_at (by omega)] | rw [ints_at0 (by omega)] | rw [ints_at' (by omega) (by omega)] | refine G1 ?_ | refine ⟨_, _, RCompareE_mk (x := z) (y := e), ?_⟩ | fail) <;> conv => whnf)
        all_goals
          refine ⟨(o ++ [⟨z.src, z.letter, z.dst, z.mark || e.mark⟩], i + 1), ⟨hlt, by dsimp only; rw [hts]; exact hos, by simp; omega⟩, by dsimp only; omega, [some 0, some 1], rfl, rfl, And.intro ⟨rfl, rfl⟩ (And.intro ⟨rfl, edge_lset (by simp) (by simp_all)⟩ trivial), ⟨congrArg (AV.ref 1 0) (by simp), rfl, .inl rfl, .inl rfl, trivial⟩⟩
      · have hnew := ord_new (e := e) ho hs (fun o' z' hz => by
          obtain ⟨_, hz⟩ := List.append_inj' hz rfl
          simp only [List.cons.injEq, and_true] at hz
          rw [← hz]
          exact fun h => hk (cmpE_zero.2 h))
        conv => whnf
        repeat' ((first | contradiction | (refine And.intro (fun hb => ?_) (fun hb => ?_) <;> first | contradiction | ((try simp only [SB, reduceCtorEq] at hb); try (exfalso; first | contradiction | omega))) | rw [hat] | rw [hzl] | refine G2 ?_ | rw [ints_at (by omega)] | rw [ints_at0 (by omega)] | rw [ints_at' (by omega) (by omega)] | refine G1 ?_ | refine ⟨_, _, RCompareE_mk (x := z) (y := e), ?_⟩ | fail) <;> conv => whnf)
        refine ⟨(o ++ [z] ++ [e], i + 1), ⟨hlt, by dsimp only; rw [hts]; exact hnew, by simp; omega⟩, by dsimp only; omega, [some 0, some 3], rfl, rfl, And.intro ⟨rfl, rfl⟩ (And.intro ⟨rfl, keep_appE⟩ trivial), ⟨congrArg (AV.ref 3 0) (by simp), rfl, .inl rfl, .inl rfl, trivial⟩⟩
  · obtain rfl : i = es.length := by omega
    conv => whnf
    repeat' ((first | contradiction | (refine And.intro (fun hb => ?_) (fun hb => ?_) <;> first | contradiction | ((try simp only [SB, reduceCtorEq] at hb); try (exfalso; first | contradiction | omega))) | refine G2 ?_ | rw [ints_at (by omega)] | rw [ints_at0 (by omega)] | rw [ints_at' (by omega) (by omega)] | refine G1 ?_ | fail) <;> conv => whnf)
    have hoe : ordL es = out := ordL_of (isOrd_perm hp (by rw [← hn, List.take_length] at ho; exact ho))
    rw [hoe]
    refine ⟨.inl rfl, ?_⟩
    conv => whnf
    exact ⟨[some 1], ⟨rfl, And.intro ⟨rfl, rfl⟩ trivial⟩, rfl, rfl, by simp [AObj.nov, edgeRows_nov]⟩
end Go.Proofs.Ythanhknkoikbfaa.Ct
namespace Go.Proofs.Ythanhknkoikbfaa.Ct
open Go Go.Proofs Go.Proofs.Ythanhknkoikbfaa.Av Go.Proofs.Ythanhknkoikbfaa.Pl
def c_impl_waitFor : ICode := (.seq (.reg [Ol 6 .mv [ci 0], Ol 7 .mv [cb false]]) (.seq (.block 0 (.loop (.seq (.seq (.reg [O1 8 .mv 1, O1 9 .mv 2, O2 10 (.bin .lss) 8 9, O1 11 .mv 10, Og 12 .mv [.t 0] 11 true, Og 13 .mv [.t 1] 11 true, Og 14 (.call 125) [.t 12, .t 13] 11 true, Ol 15 .pick [.t 11, .t 14, cb false]]) (.cond (.t 15) .skip (.exit 0))) (.block 1 (.reg [O1 16 .mv 1, Ol 17 (.bin .add) [.t 16, ci 1], O1 1 .mv 17]))))) (.seq (.seq (.reg [O1 18 .mv 1, O1 19 .mv 2, O2 20 (.bin .eql) 18 19]) (.cond (.t 20) (.seq (.reg [Ol 6 .mv [ci 0], Ol 7 .mv [cb true]]) .ret) .skip)) (.seq (.reg [O1 21 .mv 1, O1 6 .mv 21, Ol 7 .mv [cb false]]) .ret))))
theorem b_impl_waitFor : Body Try.prog 150 22 c_impl_waitFor [(.t 6), (.t 7)] := body_mk Try.func150 (by kernel_rfl) (by decide)
def c_impl_GenDegen : ICode := (.seq (.reg [O1 1 (.box 5) 0, O0 2 (.alc [(.int .i64 0), (.int .i64 0), (.int .i64 0), .snil]), Ol 3 .mv [cb false]]) (.seq (.seq (.reg [O1 13 (.ldn 5) 1, O1 14 (.call 149) 13, O1 15 .not 14]) (.cond (.t 15) (.seq (.reg [O0 16 (.bld [(.int .i64 0), (.int .i64 0), (.int .i64 0), .snil] []), S2 (.st 4) 2 16, Ol 3 .mv [cb false]]) .ret) .skip)) (.seq (.reg [O1 17 (.fadr 0) 1, O1 18 .ld1 17, O1 19 (.fadr 1) 1, O1 20 .ld1 19, O1 21 (.fadr 2) 1, O1 22 .ld1 21, O3 23 (.bld [(.int .i64 0), (.int .i64 0), (.int .i64 0), .snil] [(0, 1), (1, 1), (2, 1)]) 18 20 22, O0 4 (.alc [(.int .i64 0), (.int .i64 0), (.int .i64 0), .snil]), S2 (.st 4) 4 23]) (.seq (.reg [O1 24 (.fadr 3) 1, O1 25 .ld1 24, Ol 26 .max [.t 25, ci 1], O1 5 .mv 26]) (.seq (.seq (.reg [O1 27 (.fadr 3) 1, O1 28 .ld1 27, Ol 29 (.bin .gtr) [.t 28, ci 0]]) (.cond (.t 29) (.seq (.reg [O1 30 (.fadr 1) 4, O1 31 .ld1 30, O1 32 .mv 5, O2 33 (.bin .mul) 31 32, O1 34 (.fadr 1) 4, S2 (.st 1) 34 33]) (.seq (.reg [O1 35 (.fadr 2) 4, Sl (.st 1) [.t 35, ci 0]]) (.seq (.seq (.reg [O1 36 (.fadr 1) 4, O1 37 .ld1 36, Ol 38 (.bin .gtr) [.t 37, ci 31], O1 39 .mv 38, Og 40 (.fadr 4) [.t 1] 39 false, Og 41 .ld1 [.t 40] 39 false, Og 42 .len [.t 41] 39 false, Og 43 .mv [.t 5] 39 false, Og 44 (.bin .mul) [.t 42, .t 43] 39 false, Og 45 (.bin .gtr) [.t 44, ci 2000] 39 false, Ol 46 .pick [.t 39, cb true, .t 45]]) (.cond (.t 46) (.seq (.reg [O0 47 (.bld [(.int .i64 0), (.int .i64 0), (.int .i64 0), .snil] []), S2 (.st 4) 2 47, Ol 3 .mv [cb false]]) .ret) .skip)) (.seq (.reg [O1 48 (.fadr 2) 1, O1 49 .ld1 48, O1 50 (.call 80) 49, O1 51 .len 50, Ol 52 .mv [ci 0]]) (.block 0 (.loop (.seq (.reg [O2 53 (.bin .lss) 52 51]) (.seq (.cond (.t 53) .skip (.exit 0)) (.seq (.block 1 (.seq (.reg [O2 54 (.iadr 1) 50 52, O1 55 .ld1 54, O1 7 .mv 55]) (.drw [O1 56 (.fadr 2) 4, O1 57 .ld1 56, O1 58 .mv 7, O1 59 .mv 5, O2 60 (.bin .mul) 58 59, O1 61 (.call 141) 60, O2 62 (.bin .or) 57 61, O1 63 (.fadr 2) 4, S2 (.st 1) 63 62] (unB [0, 1, 0, 0, 12, 28, 63, 127, 255] 0) true true))) (.reg [Ol 64 (.bin .add) [.t 52, ci 1], O1 52 .mv 64])))))))))) .skip)) (.seq (.seq (.reg [O1 65 (.fadr 4) 1, O1 66 .ld1 65, O1 67 .len 66, Ol 68 .mv [ci 0]]) (.block 2 (.loop (.seq (.reg [O2 69 (.bin .lss) 68 67]) (.seq (.cond (.t 69) .skip (.exit 2)) (.seq (.block 3 (.seq (.reg [O2 70 (.iadr 4) 66 68, O1 71 (.ldn 4) 70, O0 9 (.alc [(.int .i64 0), (.int .i64 0), (.int .i64 0), (.int .i64 0)]), S2 (.st 4) 9 71]) (.seq (.reg [O1 72 .mv 5, Ol 73 .mv [ci 0]]) (.block 4 (.loop (.seq (.reg [O2 74 (.bin .lss) 73 72]) (.seq (.cond (.t 74) .skip (.exit 4)) (.seq (.block 5 (.seq (.reg [O1 75 .mv 73, O1 10 .mv 75]) (.seq (.reg [O1 77 (.fadr 3) 9, O1 78 .ld1 77, O1 79 .mv 10, O1 80 (.fadr 3) 1, O1 81 .ld1 80, O3 82 (.call 150) 78 79 81, O1 76 .mv 82, O1 83 (.ext 0) 76, O1 84 (.ext 1) 76, O1 11 .mv 83, O1 12 .mv 84]) (.reg [O1 85 (.fadr 3) 4, O1 86 .ld1 85, O1 87 (.fadr 0) 9, O1 88 .ld1 87, O1 89 .mv 5, O2 90 (.bin .mul) 88 89, O1 91 .mv 10, O2 92 (.bin .add) 90 91, O1 93 (.fadr 1) 9, O1 94 .ld1 93, O1 95 (.fadr 2) 9, O1 96 .ld1 95, O1 97 .mv 5, O2 98 (.bin .mul) 96 97, O1 99 .mv 11, O2 100 (.bin .add) 98 99, O1 101 .mv 12, Ol 102 (.bld [(.int .i64 0), (.int .i64 0), (.int .i64 0), (.bool false)] [(0, 1), (1, 1), (2, 1), (3, 1)]) [.t 92, .t 94, .t 100, .t 101], O1 103 (.bslv 4) 102, O2 104 (.app 4 32) 86 103, O1 105 (.fadr 3) 4, S2 (.st 1) 105 104])))) (.reg [Ol 106 (.bin .add) [.t 73, ci 1], O1 73 .mv 106]))))))))) (.reg [Ol 107 (.bin .add) [.t 68, ci 1], O1 68 .mv 107]))))))) (.seq (.reg [O1 108 (.fadr 3) 4, O1 109 .ld1 108, O1 110 (.call 151) 109, O1 111 (.fadr 3) 4, S2 (.st 1) 111 110]) (.seq (.reg [O1 112 (.ldn 4) 4, O1 113 (.call 152) 112, O1 114 (.ext 0) 113, O1 115 (.ext 1) 113, S2 (.st 4) 2 114, O1 3 .mv 115]) .ret))))))))
theorem b_impl_GenDegen : Body Try.prog 66 116 c_impl_GenDegen [(.cn 2 4), (.t 3)] := body_mk Try.func66 (by kernel_rfl) (by decide)
def RWait (xs : List AV) (r : AV) (objs : List AObj) : Prop := ∃ m k s : Int, xs = [.int .i64 m, .int .i64 k, .int .i64 s] ∧ 0 ≤ m ∧ m ≤ 2147483647 ∧ 0 ≤ k ∧ k ≤ s ∧ s ≤ 4 ∧
  r = .tup [.int .i64 ((waitJ m.toNat s.toNat k.toNat : Nat) : Int), .bool (decide (nextU m.toNat s.toNat k.toNat = s.toNat))] ∧ objs = []
theorem RWait_mk {m k s : Int} (h0 : 0 ≤ m) (h1 : m ≤ 2147483647) (h2 : 0 ≤ k) (h3 : k ≤ s) (h4 : s ≤ 4) :
    RWait [.int .i64 m, .int .i64 k, .int .i64 s] (.tup [.int .i64 ((waitJ m.toNat s.toNat k.toNat : Nat) : Int), .bool (decide (nextU m.toNat s.toNat k.toNat = s.toNat))]) [] := ⟨m, k, s, rfl, h0, h1, h2, h3, h4, rfl, rfl⟩
set_option maxHeartbeats 1000000 in
theorem s_impl_waitFor : PureSound Try.prog 150 RWait := by
  have hR : Rely Try.prog (ctxOf [(125, .pure RHas)]) := rely_cons b_impl_has.has s_impl_has (rely_nil mixed)
  refine pure_of_aw b_impl_waitFor ?_
  rintro xs r objs ⟨m, k, s, rfl, h0, h1, h2, h3, h4, hr, rfl⟩ -
  obtain ⟨M, rfl⟩ := Int.eq_ofNat_of_zero_le h0
  obtain ⟨k, rfl⟩ := Int.eq_ofNat_of_zero_le h2
  obtain ⟨S, rfl⟩ := Int.eq_ofNat_of_zero_le (show 0 ≤ s by omega)
  simp only [Int.toNat_natCast] at hr
  unfold waitJ at hr
  have hM : M < 2 ^ 31 := by omega
  have hin := nextU_in (m := M) (S := S) (k := k) (by omega)
  have hyes := fun j => nextU_yes (m := M) (S := S) (k := j)
  have hno := fun j => nextU_no (m := M) (S := S) (k := j)
  obtain ⟨U, hU⟩ : ∃ U, nextU M S k = U := ⟨_, rfl⟩
  simp only [hU] at hr hin
  subst hr
  refine ⟨by simp, vc2_sound hR _ _ _ _ _ ?_⟩
  conv => whnf
  repeat' ((first | contradiction | (refine And.intro (fun hb => ?_) (fun hb => ?_) <;> first | contradiction | ((try simp only [SB, reduceCtorEq] at hb); try (exfalso; first | contradiction | omega))) | refine G2 ?_ | rw [ints_at (by omega)] | rw [ints_at0 (by omega)] | rw [ints_at' (by omega) (by omega)] | refine G1 ?_ | fail) <;> conv => whnf)
  refine Lp.intro (α := Nat) (fun j => j ≤ S ∧ nextU M S j = U) (fun j => S - j) (fun j => [(0, .int .i64 ((M : Nat) : Int)), (1, .int .i64 ((j : Nat) : Int)), (2, .int .i64 ((S : Nat) : Int)), (6, .int .i64 0), (7, .bool false)]) (fun _ => []) ?_ ?_
  · refine ⟨k, ⟨by omega, hU⟩, [], rfl, rfl, trivial, ?_⟩
    repeat' (first
      | exact trivial
      | refine ⟨?_, ?_⟩
      | fail)
    all_goals first
      | with_reducible rfl
      | (conv => whnf
         try left
         conv => lhs; whnf
         first
           | rfl
           | exact congrArg (AV.int .i64) (by omega)
           | skip)
  rintro j ⟨hj, hn⟩
  refine vc2_sound hR _ _ _ _ _ ?_
  by_cases hlt : j < S
  · cases hbj : M.testBit j with
    | true =>
      have hbt : RHas [.int .i64 ((M : Nat) : Int), .int .i64 ((j : Nat) : Int)] (.bool true) [] := by rw [← hbj]; exact RHas_st rfl hM (by omega)
      have hy : nextU M S (j + 1) = U := by rw [← hyes j hlt hbj]; exact hn
      conv => whnf
      repeat' ((first | contradiction | (refine And.intro (fun hb => ?_) (fun hb => ?_) <;> first | contradiction | ((try simp only [SB, reduceCtorEq] at hb); try (exfalso; first | contradiction | omega))) | refine G2 ?_ | rw [ints_at (by omega)] | rw [ints_at0 (by omega)] | rw [ints_at' (by omega) (by omega)] | refine G1 ?_ | refine ⟨_, _, hbt, ?_⟩ | fail) <;> conv => whnf)
      refine ⟨j + 1, ⟨hlt, hy⟩, by omega, [], rfl, rfl, trivial, ?_⟩
      repeat' (first
        | exact trivial
        | refine ⟨?_, ?_⟩
        | fail)
      all_goals first
        | with_reducible rfl
        | (conv => whnf
           try left
           conv => lhs; whnf
           first
             | rfl
             | exact congrArg (AV.int .i64) (by omega)
             | skip)
    | false =>
      have hbt : RHas [.int .i64 ((M : Nat) : Int), .int .i64 ((j : Nat) : Int)] (.bool false) [] := by rw [← hbj]; exact RHas_st rfl hM (by omega)
      obtain rfl : U = j := by rw [← hn]; exact hno j (fun h => by rw [hbj] at h; exact absurd h.2 (by decide))
      have hne : ¬ U = S := by omega
      conv => whnf
      repeat' ((first | contradiction | (refine And.intro (fun hb => ?_) (fun hb => ?_) <;> first | contradiction | ((try simp only [SB, reduceCtorEq] at hb); try (exfalso; first | contradiction | omega))) | refine G2 ?_ | rw [ints_at (by omega)] | rw [ints_at0 (by omega)] | rw [ints_at' (by omega) (by omega)] | refine G1 ?_ | refine ⟨_, _, hbt, ?_⟩ | fail) <;> conv => whnf)
      refine ⟨.inl rfl, ?_⟩
      conv => whnf
      refine ⟨[], ⟨rfl, trivial⟩, ?_, rfl, rfl⟩
      repeat' (first | exact trivial | refine And.intro ?_ ?_)
      all_goals
        conv => whnf
        left
        conv => lhs; whnf
      · rw [if_neg hne]
      · rw [decide_eq_false hne]
  · obtain rfl : U = j := by rw [← hn]; exact hno j (fun h => hlt h.1)
    obtain rfl : U = S := by omega
    conv => whnf
    repeat' ((first | contradiction | (refine And.intro (fun hb => ?_) (fun hb => ?_) <;> first | contradiction | ((try simp only [SB, reduceCtorEq] at hb); try (exfalso; first | contradiction | omega))) | refine G2 ?_ | rw [ints_at (by omega)] | rw [ints_at0 (by omega)] | rw [ints_at' (by omega) (by omega)] | refine G1 ?_ | fail) <;> conv => whnf)
    refine ⟨.inl rfl, ?_⟩
    conv => whnf
    refine ⟨[], ⟨rfl, trivial⟩, ?_, rfl, rfl⟩
    repeat' (first | exact trivial | refine And.intro ?_ ?_)
    all_goals
      conv => whnf
      left
      conv => lhs; whnf
    · rw [if_pos rfl]; rfl
    · rw [decide_eq_true rfl]
def GRight : GFun := fun xs objs Q => ∃ a : AutoD, xs = [.agg (autoRef 0 a)] ∧ objs = [.arr 4 (edgeRows a.edges)] ∧ AutoOk a ∧ Q (.tup [.agg (autoRef 0 a), .bool true]) [some (.arr 4 (edgeRows a.edges))]
theorem GRight_mk {a : AutoD} {Q : AV → List (Option AObj) → Prop} (h : AutoOk a) (hq : Q (.tup [.agg (autoRef 0 a), .bool true]) [some (.arr 4 (edgeRows a.edges))]) : GRight [.agg (autoRef 0 a)] [.arr 4 (edgeRows a.edges)] Q := ⟨a, rfl, rfl, h, hq⟩
theorem s_impl_rightAuto : GenSound Try.prog 152 1 GRight := by
  have hR : Rely Try.prog (ctxOf [(70, .pure RAutoOk)]) := rely_cons b_impl_AutoOk.has s_impl_AutoOk (rely_nil mixed)
  refine gen_of_aw b_impl_rightAuto ?_
  rintro xs objs Q - ⟨a, rfl, rfl, ha, hq⟩ -
  have ha' : decide (AutoOk a) = true := decide_eq_true ha
  refine ⟨by simp, vc2_sound hR _ _ _ _ _ ?_⟩
  conv => whnf
  repeat' ((first | contradiction | (refine And.intro (fun hb => ?_) (fun hb => ?_) <;> first | contradiction | ((try simp only [SB, reduceCtorEq] at hb); try (exfalso; first | contradiction | omega))) | refine G2 ?_ | rw [ints_at (by omega)] | rw [ints_at0 (by omega)] | rw [ints_at' (by omega) (by omega)] | refine G1 ?_ | refine ⟨_, _, RAutoOk_b (args_cons (snap_auto rfl) rfl) ha', ?_⟩ | fail) <;> conv => whnf)
  refine ⟨.inl rfl, ?_⟩
  conv => whnf
  exact ⟨Nat.le_refl 4, [some 0], .tup [.agg (autoRef 0 a), .bool true], [some (.arr 4 (edgeRows a.edges))], ⟨rfl, And.intro (And.intro rfl rfl) trivial⟩, ⟨⟨.inl rfl, .inl rfl, .inl rfl, rfl, trivial⟩, .inl rfl, trivial⟩, rfl, hq⟩
open Classical in
noncomputable def degR (g : GenD) : AutoD × Bool := if DegOk g then (degD g, true) else (zeroAuto, false)
def RDegen (xs : List AV) (r : AV) (objs : List AObj) : Prop := ∃ g : GenD, xs = [.agg (genRow g)] ∧ r = makeR (degR g) ∧ objs = [.arr 4 (edgeRows (degR g).1.edges)]
theorem RDegen_eq {xs : List AV} {g : GenD} (hx : xs = [.agg (genRow g)]) : RDegen xs (makeR (degR g)) [.arr 4 (edgeRows (degR g).1.edges)] := ⟨g, hx, rfl, rfl⟩
def degJ (g : GenD) (i j : Nat) : List EdgeD := degL g i ++ (List.range j).map (degE g.sets.toNat (setsN g) (g.edges.getD i default))
theorem degJ_zero {g : GenD} {i : Nat} : degJ g i 0 = degL g i := by simp [degJ]
theorem degJ_succ {g : GenD} {i j : Nat} : degJ g i (j + 1) = degJ g i j ++ [degE g.sets.toNat (setsN g) (g.edges.getD i default) j] := by simp [degJ, List.range_succ]
theorem degJ_all {g : GenD} {i : Nat} (h : i < g.edges.length) : degJ g i (setsN g) = degL g (i + 1) := by rw [degL_succ h]; rfl
theorem degJ_len {g : GenD} {i j : Nat} (h : i ≤ g.edges.length) : (degJ g i j).length = i * setsN g + j := by simp [degJ, degL_len h]
theorem deg_app {M : List EdgeD} {x y z : Int} {b : Bool} : List.take M.length (edgeRows M) ++ [[.int .i64 x, .int .i64 y, .int .i64 z, .bool b]] = edgeRows (M ++ [⟨x, y, z, b⟩]) := keep_app
abbrev zBox : AObj := .box [.int .i64 0, .int .i64 0, .int .i64 0, .snil]
set_option maxHeartbeats 8000000 in
theorem s_impl_GenDegen : PureSound Try.prog 66 RDegen := by
  have hR : Rely Try.prog (ctxOf [(149, .pure RGenOk), (80, .pure RSetList), (141, .pure ROnlyN), (150, .pure RWait), (151, .pure ROrdered), (152, .gen 1 GRight)]) :=
    rely_cons b_impl_GenOk.has s_impl_GenOk (rely_cons b_impl_SetList.has s_impl_SetList (rely_cons b_impl_only.has n_impl_only (rely_cons b_impl_waitFor.has s_impl_waitFor (rely_cons b_impl_ordered.has s_impl_ordered (rely_cons b_impl_rightAuto.has s_impl_rightAuto (rely_nil mixed))))))
  refine pure_of_aw b_impl_GenDegen ?_
  rintro xs r objs ⟨g, rfl, rfl, rfl⟩ -
  refine ⟨by simp, ?_⟩
  by_cases hg : GenOk g
  rotate_left
  · have hg' : decide (GenOk g) = false := decide_eq_false hg
    unfold degR
    rw [if_neg (fun h => hg h.1)]
    refine vc2_sound hR _ _ _ _ _ ?_
    conv => whnf
    repeat' ((first | contradiction | (refine And.intro (fun hb => ?_) (fun hb => ?_) <;> first | contradiction | ((try simp only [SB, reduceCtorEq] at hb); try (exfalso; first | contradiction | omega))) | refine G2 ?_ | rw [ints_at (by omega)] | rw [ints_at0 (by omega)] | rw [ints_at' (by omega) (by omega)] | refine G1 ?_ | refine ⟨_, _, RGenOk_b rfl hg', ?_⟩ | fail) <;> conv => whnf)
    refine ⟨.inl rfl, ?_⟩
    conv => whnf
    exact ⟨by simp, [none], ⟨rfl, And.intro rfl trivial⟩, ⟨⟨.inl rfl, .inl rfl, .inl rfl, ⟨rfl, rfl, rfl⟩, trivial⟩, .inl rfl, trivial⟩, rfl, rfl⟩
  have hg' : decide (GenOk g) = true := decide_eq_true hg
  have hst := hg.1.2.1
  have hsr := hg.1.2.2
  have hse := hg.2.1
  have hel := hg.2.2.1
  have hgr := length_gedgeRows g.edges
  obtain ⟨n, hn⟩ : ∃ n, n = setsN g := ⟨_, rfl⟩
  have hn4 : 1 ≤ n ∧ n ≤ 4 ∧ n = max g.sets.toNat 1 := ⟨by rw [hn]; exact setsN_pos g, by rw [hn]; unfold setsN; omega, hn⟩
  have p1 : 0 ≤ g.states * ((n : Nat) : Int) := Int.mul_nonneg hst.1 (by omega)
  have p2 : g.states * ((n : Nat) : Int) ≤ 31 * 4 := Int.mul_le_mul hst.2 (by omega) (by omega) (by omega)
  have p3 : 0 ≤ ((g.edges.length : Nat) : Int) * ((n : Nat) : Int) := Int.mul_nonneg (by omega) (by omega)
  have p4 : ((g.edges.length : Nat) : Int) * ((n : Nat) : Int) ≤ 2000 * 4 := Int.mul_le_mul (by omega) (by omega) (by omega) (by omega)
  by_cases hD : DegOk g
  rotate_left
  · unfold degR
    rw [if_neg hD]
    have h0 : 0 < g.sets := by
      refine Classical.byContradiction fun h => hD ⟨hg, ?_, ?_⟩
      · rw [← hn, show n = 1 by omega]; omega
      · rw [← hn, show n = 1 by omega]; omega
    have hbig : ¬ (g.states * ((n : Nat) : Int) ≤ 31 ∧ ((g.edges.length : Nat) : Int) * ((n : Nat) : Int) ≤ 2000) := fun h => hD ⟨hg, by rw [← hn]; exact h.1, by rw [← hn]; exact h.2⟩
    have hmx : (if 1 > g.sets then 1 else g.sets) = ((n : Nat) : Int) := by split <;> omega
    refine vc2_sound hR _ _ _ _ _ ?_
    conv => whnf
    repeat' ((first | contradiction | (refine And.intro (fun hb => ?_) (fun hb => ?_) <;> first | contradiction | ((try simp only [SB, reduceCtorEq] at hb); try (exfalso; first | contradiction | omega))) | rw [hmx] | rw [hgr] | refine G2 ?_ | rw [ints_at (by omega)] | rw [ints_at0 (by omega)] | rw [ints_at' (by omega) (by omega)] | refine G1 ?_ | refine ⟨_, _, RGenOk_b rfl hg', ?_⟩ | fail) <;> conv => whnf)
    all_goals
      refine ⟨.inl rfl, ?_⟩
      conv => whnf
      exact ⟨by simp, [none], ⟨rfl, And.intro rfl trivial⟩, ⟨⟨.inl rfl, .inl rfl, .inl rfl, ⟨rfl, rfl, rfl⟩, trivial⟩, .inl rfl, trivial⟩, rfl, rfl⟩
  have hd31 := hD.2.1
  have hd20 := hD.2.2
  rw [← hn] at hd31 hd20
  have hmx : (if 1 > g.sets then 1 else g.sets) = ((n : Nat) : Int) := by split <;> omega
  refine Aw.meet (α := Unit) (fun _ => True) (fun _ => [(1, .ptr 0 0 0), (2, .ptr 1 0 0), (3, .bool false)]) (fun _ => [some (.box (genRow g)), some zBox]) ?_ ?_
  · refine vc2_sound hR _ _ _ _ _ ?_
    conv => whnf
    repeat' ((first | contradiction | (refine And.intro (fun hb => ?_) (fun hb => ?_) <;> first | contradiction | ((try simp only [SB, reduceCtorEq] at hb); try (exfalso; first | contradiction | omega))) | refine G2 ?_ | rw [ints_at (by omega)] | rw [ints_at0 (by omega)] | rw [ints_at' (by omega) (by omega)] | refine G1 ?_ | fail) <;> conv => whnf)
    refine ⟨(), trivial, [some 0, some 1], rfl, rfl, ?_, ?_⟩
    · repeat' (first | exact trivial | exact rfl | exact Or.inl rfl | refine And.intro ?_ ?_)
    · repeat' (first
        | exact trivial
        | refine ⟨?_, ?_⟩
        | fail)
      all_goals first
        | with_reducible rfl
        | (conv => whnf
           try left
           conv => lhs; whnf
           first
             | rfl
             | exact congrArg (AV.int .i64) (by omega)
             | skip)
  rintro _ -
  refine Aw.meet (α := Unit) (fun _ => True) (fun _ => [(1, .ptr 0 0 0), (2, .ptr 1 0 0), (3, .bool false)]) (fun _ => [some (.box (genRow g)), some zBox]) ?_ ?_
  · refine vc2_sound hR _ _ _ _ _ ?_
    conv => whnf
    repeat' ((first | contradiction | (refine And.intro (fun hb => ?_) (fun hb => ?_) <;> first | contradiction | ((try simp only [SB, reduceCtorEq] at hb); try (exfalso; first | contradiction | omega))) | refine G2 ?_ | rw [ints_at (by omega)] | rw [ints_at0 (by omega)] | rw [ints_at' (by omega) (by omega)] | refine G1 ?_ | refine ⟨_, _, RGenOk_b rfl hg', ?_⟩ | fail) <;> conv => whnf)
    refine ⟨(), trivial, [some 0, some 1], rfl, rfl, ?_, ?_⟩
    · repeat' (first | exact trivial | exact rfl | exact Or.inl rfl | refine And.intro ?_ ?_)
    · repeat' (first
        | exact trivial
        | refine ⟨?_, ?_⟩
        | fail)
      all_goals first
        | with_reducible rfl
        | (conv => whnf
           try left
           conv => lhs; whnf
           first
             | rfl
             | exact congrArg (AV.int .i64) (by omega)
             | skip)
  rintro _ -
  refine Aw.meet (α := Unit) (fun _ => True) (fun _ => [(1, .ptr 0 0 0), (2, .ptr 1 0 0), (3, .bool false), (4, .ptr 2 0 0)]) (fun _ => [some (.box (genRow g)), some zBox, some (.box [.int .i64 g.letters, .int .i64 g.states, .int .i64 g.start, .snil])]) ?_ ?_
  · refine vc2_sound hR _ _ _ _ _ ?_
    conv => whnf
    repeat' ((first | contradiction | (refine And.intro (fun hb => ?_) (fun hb => ?_) <;> first | contradiction | ((try simp only [SB, reduceCtorEq] at hb); try (exfalso; first | contradiction | omega))) | refine G2 ?_ | rw [ints_at (by omega)] | rw [ints_at0 (by omega)] | rw [ints_at' (by omega) (by omega)] | refine G1 ?_ | fail) <;> conv => whnf)
    refine ⟨(), trivial, [some 0, some 1, some 2], rfl, rfl, ?_, ?_⟩
    · repeat' (first | exact trivial | exact rfl | exact Or.inl rfl | refine And.intro ?_ ?_)
    · repeat' (first
        | exact trivial
        | refine ⟨?_, ?_⟩
        | fail)
      all_goals first
        | with_reducible rfl
        | (conv => whnf
           try left
           conv => lhs; whnf
           first
             | rfl
             | exact congrArg (AV.int .i64) (by omega)
             | skip)
  rintro _ -
  refine Aw.meet (α := Unit) (fun _ => True) (fun _ => [(1, .ptr 0 0 0), (2, .ptr 1 0 0), (3, .bool false), (4, .ptr 2 0 0), (5, .int .i64 ((n : Nat) : Int))]) (fun _ => [some (.box (genRow g)), some zBox, some (.box [.int .i64 g.letters, .int .i64 g.states, .int .i64 g.start, .snil])]) ?_ ?_
  · refine vc2_sound hR _ _ _ _ _ ?_
    conv => whnf
    repeat' ((first | contradiction | (refine And.intro (fun hb => ?_) (fun hb => ?_) <;> first | contradiction | ((try simp only [SB, reduceCtorEq] at hb); try (exfalso; first | contradiction | omega))) | refine G2 ?_ | rw [ints_at (by omega)] | rw [ints_at0 (by omega)] | rw [ints_at' (by omega) (by omega)] | refine G1 ?_ | fail) <;> conv => whnf)
    refine ⟨(), trivial, [some 0, some 1, some 2], rfl, rfl, ?_, ?_⟩
    · repeat' (first | exact trivial | exact rfl | exact Or.inl rfl | refine And.intro ?_ ?_)
    · exact ⟨rfl, rfl, .inl rfl, rfl, .inl (congrArg (AV.int .i64) hmx), trivial⟩
  rintro _ -
  have hsl : g.start = ((g.start.toNat : Nat) : Int) := by omega
  have hglt := gstart_lt hg
  have h31 : g.start.toNat < 2 ^ 31 := Nat.lt_of_lt_of_le hglt (pow_le31 (by omega))
  obtain ⟨L, hL⟩ : ∃ L, L = bitL g.start.toNat 31 := ⟨_, rfl⟩
  obtain ⟨st, hst1⟩ : ∃ st, st = stN n L := ⟨_, rfl⟩
  refine Aw.meet (α := Unit) (fun _ => True) (fun _ => [(1, .ptr 0 0 0), (2, .ptr 1 0 0), (3, .bool false), (4, .ptr 2 0 0), (5, .int .i64 ((n : Nat) : Int))]) (fun _ => [some (.box (genRow g)), some zBox, some (.box [.int .i64 g.letters, .int .i64 (g.states * ((n : Nat) : Int)), .int .i64 ((st : Nat) : Int), .snil])]) ?_ ?_
  · refine vc2_sound hR _ _ _ _ _ ?_
    by_cases h0 : 0 < g.sets
    · have hLm : ∀ i, i < L.length → L.getD i 0 < g.states.toNat := fun i hi => by
        have hm : L.getD i 0 ∈ L := by rw [List.getD_eq_getElem?_getD, List.getElem?_eq_getElem hi]; exact List.getElem_mem hi
        rw [hL] at hm
        exact bit_lt hglt (mem_bitL.1 (by rw [← hL] at hm ⊢; exact hm)).2
      have hLl : L.length ≤ 31 := by rw [hL]; exact bitL_len
      have hstl : ∀ i, stN n (L.take i) < 2 ^ 31 := fun i => by
        refine Nat.lt_of_lt_of_le (stN_lt (m := g.states.toNat) (fun s hs => ?_) (by omega)) (pow_le31 ?_)
        · have := List.mem_of_mem_take hs
          rw [hL] at this
          exact bit_lt hglt (mem_bitL.1 this).2
        · have : ((g.states.toNat * n : Nat) : Int) ≤ 31 := by rw [Int.natCast_mul, Int.toNat_of_nonneg hst.1]; exact hd31
          omega
      have hsn : ∀ i, i < L.length → stN n (L.take (i + 1)) = stN n (L.take i) ||| 2 ^ (L.getD i 0 * n) := fun i hi => by
        rw [List.take_add_one, List.getElem?_eq_getElem hi, List.getD_eq_getElem?_getD, List.getElem?_eq_getElem hi]
        exact stN_snoc
      have hst2 : stN n (L.take L.length) = st := by rw [List.take_length, hst1]
      have hSL : ∀ xs, xs = [.int .i64 g.start] → RSetList xs (.ref 0 0 L.length) [.arr 1 (ints (natsI L))] := fun xs h => by rw [hL]; exact RSetList_eq h (by omega) (by omega)
      have hnl := length_ints (natsI L)
      rw [length_natsI] at hnl
      conv => whnf
      repeat' ((first | contradiction | (refine And.intro (fun hb => ?_) (fun hb => ?_) <;> first | contradiction | ((try simp only [SB, reduceCtorEq] at hb); try (exfalso; first | contradiction | omega))) | rw [hgr] | refine G2 ?_ | rw [ints_at (by omega)] | rw [ints_at0 (by omega)] | rw [ints_at' (by omega) (by omega)] | refine G1 ?_ | refine ⟨_, _, hSL _ rfl, ?_⟩ | fail) <;> conv => whnf)
      refine Lp.intro (α := Nat) (fun i => i ≤ L.length) (fun i => L.length - i)
        (fun i => [(1, .ptr 0 0 0), (2, .ptr 1 0 0), (3, .bool false), (4, .ptr 2 0 0), (5, .int .i64 ((n : Nat) : Int)), (50, .ref 3 0 L.length), (51, .int .i64 L.length), (52, .int .i64 ((i : Nat) : Int))])
        (fun i => [some (.box (genRow g)), some zBox, some (.box [.int .i64 g.letters, .int .i64 (g.states * ((n : Nat) : Int)), .int .i64 ((stN n (L.take i) : Nat) : Int), .snil]), some (.arr 1 (ints (natsI L)))]) ?_ ?_
      · refine ⟨0, Nat.zero_le _, [some 0, some 1, some 2, some 3], rfl, rfl, And.intro ⟨.inl rfl, .inl rfl, .inl rfl, .inl rfl, .inl rfl, trivial⟩ (And.intro ⟨.inl rfl, .inl rfl, .inl rfl, .inl rfl, trivial⟩ (And.intro ⟨.inl rfl, .inl rfl, .inl rfl, .inl rfl, trivial⟩ (And.intro ⟨rfl, rfl⟩ trivial))), ⟨rfl, rfl, .inl rfl, rfl, .inl rfl, rfl, .inl rfl, .inl rfl, trivial⟩⟩
      intro i hi
      refine vc2_sound hR _ _ _ _ _ ?_
      by_cases hlt : i < L.length
      · have hcell : (ints (natsI L))[0 + ((i : Nat) : Int).toNat]? = some [.int .i64 ((L.getD i 0 : Nat) : Int)] := by
          rw [ints_at0 (by rw [length_natsI]; exact hlt)]
          simp [natsI, List.getD_eq_getElem?_getD, List.getElem?_eq_getElem hlt]
        have hvm := hLm i hlt
        have hsn1 := hsn i hlt
        have hor := fun h2 => or_bit (X := stN n (L.take i)) (i := ((L.getD i 0 * n : Nat) : Int)) (hstl i) (by omega) h2
        rw [Int.toNat_natCast, Int.natCast_mul] at hor
        generalize L.getD i 0 = v at *
        have hv1 : ((v : Nat) : Int) * ((n : Nat) : Int) ≤ (g.states - 1) * ((n : Nat) : Int) := Int.mul_le_mul_of_nonneg_right (by omega) (by omega)
        rw [Int.sub_mul, Int.one_mul] at hv1
        have hv0 : 0 ≤ ((v : Nat) : Int) * ((n : Nat) : Int) := Int.mul_nonneg (by omega) (by omega)
        have hor1 := hor (by omega)
        have hon : 2 ^ (v * n) = 2 ^ (((v : Nat) : Int) * ((n : Nat) : Int)).toNat := by rw [← Int.natCast_mul, Int.toNat_natCast]
        conv => whnf
        repeat' ((first | contradiction | (refine And.intro (fun hb => ?_) (fun hb => ?_) <;> first | contradiction | ((try simp only [SB, reduceCtorEq] at hb); try (exfalso; first | contradiction | omega))) | rw [hcell] | rw [hor1] | refine G2 ?_ | rw [ints_at (by omega)] | rw [ints_at0 (by omega)] | rw [ints_at' (by omega) (by omega)] | refine G1 ?_ | refine ⟨_, _, ROnlyN_is (p := 2 ^ (v * n)) (by omega) (by omega) hon, ?_⟩ | fail) <;> conv => whnf)
        refine ⟨i + 1, hlt, by omega, [some 0, some 1, some 2, some 3], rfl, rfl, And.intro ⟨.inl rfl, .inl rfl, .inl rfl, .inl rfl, .inl rfl, trivial⟩ (And.intro ⟨.inl rfl, .inl rfl, .inl rfl, .inl rfl, trivial⟩ (And.intro ⟨.inl rfl, .inl rfl, .inl (congrArg (fun x : Nat => AV.int .i64 x) hsn1.symm), .inl rfl, trivial⟩ (And.intro ⟨rfl, rfl⟩ trivial))), ⟨rfl, rfl, .inl rfl, rfl, .inl rfl, rfl, .inl rfl, .inl rfl, trivial⟩⟩
      · obtain rfl : i = L.length := by omega
        rw [hst2]
        conv => whnf
        repeat' ((first | contradiction | (refine And.intro (fun hb => ?_) (fun hb => ?_) <;> first | contradiction | ((try simp only [SB, reduceCtorEq] at hb); try (exfalso; first | contradiction | omega))) | refine G2 ?_ | rw [ints_at (by omega)] | rw [ints_at0 (by omega)] | rw [ints_at' (by omega) (by omega)] | refine G1 ?_ | fail) <;> conv => whnf)
        refine ⟨(), trivial, [some 0, some 1, some 2], rfl, rfl, And.intro ⟨.inl rfl, .inl rfl, .inl rfl, .inl rfl, .inl rfl, trivial⟩ (And.intro ⟨.inl rfl, .inl rfl, .inl rfl, .inl rfl, trivial⟩ (And.intro ⟨.inl rfl, .inl rfl, .inl rfl, .inl rfl, trivial⟩ trivial)), ⟨rfl, rfl, .inl rfl, rfl, .inl rfl, trivial⟩⟩
    · have hn1 : n = 1 := by omega
      have e1 : g.states = g.states * ((n : Nat) : Int) := by rw [hn1]; omega
      have e2 : g.start = ((st : Nat) : Int) := by rw [hst1, hn1, hL, stN_one h31]; exact hsl
      conv => whnf
      repeat' ((first | contradiction | (refine And.intro (fun hb => ?_) (fun hb => ?_) <;> first | contradiction | ((try simp only [SB, reduceCtorEq] at hb); try (exfalso; first | contradiction | omega))) | refine G2 ?_ | rw [ints_at (by omega)] | rw [ints_at0 (by omega)] | rw [ints_at' (by omega) (by omega)] | refine G1 ?_ | fail) <;> conv => whnf)
      refine ⟨(), trivial, [some 0, some 1, some 2], rfl, rfl, And.intro ⟨.inl rfl, .inl rfl, .inl rfl, .inl rfl, .inl rfl, trivial⟩ (And.intro ⟨.inl rfl, .inl rfl, .inl rfl, .inl rfl, trivial⟩ (And.intro ⟨.inl rfl, .inl (congrArg (AV.int .i64) e1), .inl (congrArg (AV.int .i64) e2), .inl rfl, trivial⟩ trivial)), ⟨rfl, rfl, .inl rfl, rfl, .inl rfl, trivial⟩⟩
  rintro _ -
  have hdl := fun i (h : i ≤ g.edges.length) => degL_len (g := g) h
  rw [← hn] at hdl
  have hsm := degL_small hD
  have hdd : degR g = (degD g, true) := by unfold degR; rw [if_pos hD]
  have hdok := degD_ok hD
  have hde : degD g = ⟨g.letters, g.states * ((n : Nat) : Int), ((st : Nat) : Int), ordL (degL g g.edges.length)⟩ := by rw [hst1, hL, hn]; rfl
  rw [hde] at hdd hdok
  rw [hdd]
  clear hde hdd
  refine vc2_sound hR _ _ _ _ _ ?_
  conv => whnf
  repeat' ((first | contradiction | (refine And.intro (fun hb => ?_) (fun hb => ?_) <;> first | contradiction | ((try simp only [SB, reduceCtorEq] at hb); try (exfalso; first | contradiction | omega))) | refine G2 ?_ | rw [ints_at (by omega)] | rw [ints_at0 (by omega)] | rw [ints_at' (by omega) (by omega)] | refine G1 ?_ | fail) <;> conv => whnf)
  refine Lp.intro (α := Nat) (fun i => i ≤ g.edges.length) (fun i => g.edges.length - i)
    (fun i => [(1, .ptr 0 0 0), (2, .ptr 1 0 0), (3, .bool false), (4, .ptr 2 0 0), (5, .int .i64 ((n : Nat) : Int)), (66, .val (gedgeRows g.edges)), (67, .int .i64 g.edges.length), (68, .int .i64 ((i : Nat) : Int))])
    (fun i => [some (.box (genRow g)), some zBox, some (.box [.int .i64 g.letters, .int .i64 (g.states * ((n : Nat) : Int)), .int .i64 ((st : Nat) : Int), .ref 3 0 (degL g i).length]), some (.arr 4 (edgeRows (degL g i)))]) ?_ ?_
  · refine ⟨0, Nat.zero_le _, [some 0, some 1, some 2, none], rfl, rfl, And.intro ⟨.inl rfl, .inl rfl, .inl rfl, .inl rfl, .inl rfl, trivial⟩ (And.intro ⟨.inl rfl, .inl rfl, .inl rfl, .inl rfl, trivial⟩ (And.intro ⟨.inl rfl, .inl rfl, .inl rfl, ⟨rfl, rfl, rfl⟩, trivial⟩ (And.intro rfl trivial))), ⟨rfl, rfl, .inl rfl, rfl, .inl rfl, .inl rfl, .inl (congrArg (fun x : Nat => AV.int .i64 x) hgr), .inl rfl, trivial⟩⟩
  intro i hi
  refine vc2_sound hR _ _ _ _ _ ?_
  by_cases hlt : i < g.edges.length
  · have hat := gedge_at hlt
    have hin := gmem_in hg (getD_mem' hlt)
    unfold GIn at hin
    have hJz := degJ_zero (g := g) (i := i)
    have hJs := fun j => degJ_succ (g := g) (i := i) (j := j)
    have hJa := degJ_all hlt
    have hJl := fun j => degJ_len (g := g) (i := i) (j := j) (by omega)
    rw [← hn] at hJs hJa hJl
    generalize g.edges.getD i default = e at *
    have q1 : 0 ≤ e.src * ((n : Nat) : Int) := Int.mul_nonneg hin.1.1 (by omega)
    have q2 : e.src * ((n : Nat) : Int) ≤ 31 * 4 := Int.mul_le_mul (by omega) (by omega) (by omega) (by omega)
    have q3 : 0 ≤ e.dst * ((n : Nat) : Int) := Int.mul_nonneg hin.2.1.1 (by omega)
    have q4 : e.dst * ((n : Nat) : Int) ≤ 31 * 4 := Int.mul_le_mul (by omega) (by omega) (by omega) (by omega)
    conv => whnf
    repeat' ((first | contradiction | (refine And.intro (fun hb => ?_) (fun hb => ?_) <;> first | contradiction | ((try simp only [SB, reduceCtorEq] at hb); try (exfalso; first | contradiction | omega))) | rw [hat] | refine G2 ?_ | rw [ints_at (by omega)] | rw [ints_at0 (by omega)] | rw [ints_at' (by omega) (by omega)] | refine G1 ?_ | fail) <;> conv => whnf)
    refine Lp.intro (α := Nat) (fun j => j ≤ n) (fun j => n - j)
      (fun j => [(1, .ptr 0 0 0), (2, .ptr 1 0 0), (3, .bool false), (4, .ptr 2 0 0), (5, .int .i64 ((n : Nat) : Int)), (66, .val (gedgeRows g.edges)), (67, .int .i64 g.edges.length), (68, .int .i64 ((i : Nat) : Int)), (9, .ptr 4 0 0), (72, .int .i64 ((n : Nat) : Int)), (73, .int .i64 ((j : Nat) : Int))])
      (fun j => [some (.box (genRow g)), some zBox, some (.box [.int .i64 g.letters, .int .i64 (g.states * ((n : Nat) : Int)), .int .i64 ((st : Nat) : Int), .ref 3 0 (degJ g i j).length]), some (.arr 4 (edgeRows (degJ g i j))), some (.box (gedgeRow e))]) ?_ ?_
    · refine ⟨0, Nat.zero_le _, [some 0, some 1, some 2, some 3, some 4], rfl, rfl, And.intro ⟨.inl rfl, .inl rfl, .inl rfl, .inl rfl, .inl rfl, trivial⟩ (And.intro ⟨.inl rfl, .inl rfl, .inl rfl, .inl rfl, trivial⟩ (And.intro ⟨.inl rfl, .inl rfl, .inl rfl, congrArg (fun l : List EdgeD => AV.ref 3 0 l.length) hJz.symm, trivial⟩ (And.intro ⟨rfl, congrArg edgeRows hJz.symm⟩ (And.intro ⟨.inl rfl, .inl rfl, .inl rfl, .inl rfl, trivial⟩ trivial)))), ⟨rfl, rfl, .inl rfl, rfl, .inl rfl, .inl rfl, .inl rfl, .inl rfl, rfl, .inl rfl, .inl rfl, trivial⟩⟩
    intro j hj
    refine vc2_sound hR _ _ _ _ _ ?_
    by_cases hltj : j < n
    · have hwt : ∀ xs, xs = [.int .i64 e.marks, .int .i64 ((j : Nat) : Int), .int .i64 g.sets] → RWait xs (.tup [.int .i64 ((waitJ e.marks.toNat g.sets.toNat j : Nat) : Int), .bool (decide (nextU e.marks.toNat g.sets.toNat j = g.sets.toNat))]) [] := fun xs h => by
        have := RWait_mk (m := e.marks) (k := ((j : Nat) : Int)) (s := g.sets) (by omega) (by omega) (by omega) (by omega) (by omega)
        rw [Int.toNat_natCast, ← h] at this
        exact this
      have hWn : waitJ e.marks.toNat g.sets.toNat j < n := waitJ_lt hn4.2.2 hltj
      have hJs1 := hJs j
      have hJl1 := hJl j
      have hJl2 := hJl (j + 1)
      have hJe := length_edgeRows (degJ g i j)
      have hiN : i * n + n ≤ g.edges.length * n := by
        have := Nat.mul_le_mul_right n hlt
        rw [Nat.succ_mul] at this
        exact this
      rw [hdl _ (Nat.le_refl _)] at hsm
      unfold degE at hJs1
      generalize waitJ e.marks.toNat g.sets.toNat j = W at *
      generalize decide (nextU e.marks.toNat g.sets.toNat j = g.sets.toNat) = gd at *
      cases gd
      all_goals
        conv => whnf
        repeat' ((first | contradiction | (refine And.intro (fun hb => ?_) (fun hb => ?_) <;> first | contradiction | ((try simp only [SB, reduceCtorEq] at hb); try (exfalso; first | contradiction | omega))) | refine G2 ?_ | rw [ints_at (by omega)] | rw [ints_at0 (by omega)] | rw [ints_at' (by omega) (by omega)] | refine G1 ?_ | refine ⟨_, _, hwt _ rfl, ?_⟩ | fail) <;> conv => whnf)
        refine ⟨j + 1, hltj, by omega, [some 0, some 1, some 2, some 5, some 4], rfl, rfl, And.intro ⟨.inl rfl, .inl rfl, .inl rfl, .inl rfl, .inl rfl, trivial⟩ (And.intro ⟨.inl rfl, .inl rfl, .inl rfl, .inl rfl, trivial⟩ (And.intro ⟨.inl rfl, .inl rfl, .inl rfl, congrArg (AV.ref 5 0) (by rw [hJs1, List.length_append]; rfl), trivial⟩ (And.intro ⟨rfl, by rw [hJs1]; exact deg_app⟩ (And.intro ⟨.inl rfl, .inl rfl, .inl rfl, .inl rfl, trivial⟩ trivial)))), ⟨rfl, rfl, .inl rfl, rfl, .inl rfl, .inl rfl, .inl rfl, .inl rfl, rfl, .inl rfl, .inl rfl, trivial⟩⟩
    · obtain rfl : j = n := by omega
      conv => whnf
      repeat' ((first | contradiction | (refine And.intro (fun hb => ?_) (fun hb => ?_) <;> first | contradiction | ((try simp only [SB, reduceCtorEq] at hb); try (exfalso; first | contradiction | omega))) | refine G2 ?_ | rw [ints_at (by omega)] | rw [ints_at0 (by omega)] | rw [ints_at' (by omega) (by omega)] | refine G1 ?_ | fail) <;> conv => whnf)
      refine ⟨i + 1, hlt, by omega, [some 0, some 1, some 2, some 3], rfl, rfl, And.intro ⟨.inl rfl, .inl rfl, .inl rfl, .inl rfl, .inl rfl, trivial⟩ (And.intro ⟨.inl rfl, .inl rfl, .inl rfl, .inl rfl, trivial⟩ (And.intro ⟨.inl rfl, .inl rfl, .inl rfl, congrArg (fun l : List EdgeD => AV.ref 3 0 l.length) hJa, trivial⟩ (And.intro ⟨rfl, congrArg edgeRows hJa⟩ trivial))), ⟨rfl, rfl, .inl rfl, rfl, .inl rfl, .inl rfl, .inl rfl, .inl rfl, trivial⟩⟩
  · obtain rfl : i = g.edges.length := by omega
    conv => whnf
    repeat' ((first | contradiction | (refine And.intro (fun hb => ?_) (fun hb => ?_) <;> first | contradiction | ((try simp only [SB, reduceCtorEq] at hb); try (exfalso; first | contradiction | omega))) | refine G2 ?_ | rw [ints_at (by omega)] | rw [ints_at0 (by omega)] | rw [ints_at' (by omega) (by omega)] | refine G1 ?_ | refine ⟨_, _, ROrdered_eq (args_cons (snap_all rfl (length_edgeRows _)) rfl) (by omega), ?_⟩ | refine ⟨GRight_mk (a := ⟨g.letters, g.states * ((n : Nat) : Int), ((st : Nat) : Int), ordL (degL g g.edges.length)⟩) hdok ?_⟩ | fail) <;> conv => whnf)
    refine ⟨.inl rfl, ?_⟩
    conv => whnf
    exact ⟨by simp, [some 4], ⟨rfl, And.intro ⟨rfl, rfl⟩ trivial⟩, ⟨⟨.inl rfl, .inl rfl, .inl rfl, rfl, trivial⟩, .inl rfl, trivial⟩, rfl, by simp [AObj.nov, edgeRows_nov]⟩
end Go.Proofs.Ythanhknkoikbfaa.Ct
