/- Part 4 of the proof of FnExactHoaWriteCardSaid: AvDrs to CtE2. Conditions: none. -/
import Derived.Test.YthanhknkoikbfaaDoorT3
import Derived.Laws.Sem
import Derived.IntWalk
import Derived.Test.YthanhknkoikbfaaDoorProg
import Derived.KernelRfl
set_option linter.unusedSimpArgs false
set_option linter.unusedVariables false
namespace Go.Proofs.YthanhknkoikbfaaDoor.Av
open Go
def Near (a : Act) (dst : Option Nat) (a' : Act) : Prop := ∀ t, dst ≠ some t → a'.tmps.getD t Go.undef = a.tmps.getD t Go.undef
theorem near_put (a : Act) (dst : Option Nat) (v : Value) : Near a dst (a.put dst v) := by
  intro t ht
  cases dst with
  | none => rfl
  | some d =>
    have hne : d ≠ t := fun h => ht (by rw [h])
    simp only [Act.put, Array.getD_eq_getD_getElem?, Array.getElem?_setIfInBounds_ne hne]
theorem near_put2 (a : Act) (l : List Deferred) (dst : Option Nat) (v : Value) : Near a dst (({ a with defers := l } : Act).put dst v) := by
  intro t ht
  cases dst with
  | none => rfl
  | some d =>
    have hne : d ≠ t := fun h => ht (by rw [h])
    simp only [Act.put, Array.getD_eq_getD_getElem?, Array.getElem?_setIfInBounds_ne hne]
theorem wp_near {P : Program} {Q : Exit → Act → World → Prop} {o : Oper} {a : Act} {w : World} {K K' : Act → World → Prop} (h : ∀ a' w', Near a o.dst a' → K a' w' → K' a' w') (hh : o.wp P a w K Q) : o.wp P a w K' Q := by
  unfold Oper.wp at *
  generalize (execOp a.eval o).run P w = r at *
  cases r with
  | ok n w' =>
    cases n <;> simp only [Oper.upon] at hh ⊢ <;>
      first
        | exact h _ _ (near_put _ _ _) hh
        | exact h _ _ (near_put2 _ _ _ _) hh
        | exact Calls.mono hh (fun e w'' he => by cases e <;> first | exact h _ _ (near_put _ _ _) he | exact he)
        | exact Rows.mono hh (fun _ _ he => h _ _ (near_put _ _ _) he)
  | halt x w' => cases x <;> simp only [Oper.upon] at hh ⊢ <;> exact hh
theorem wpIf_near {P : Program} {Q : Exit → Act → World → Prop} {o : Oper} {a : Act} {w : World} {K K' : Act → World → Prop} {c : Prop} [Decidable c] (h : ∀ a' w', Near a o.dst a' → K a' w' → K' a' w')
    (hh : if c then o.wp P a w K Q ∨ (o.asks P a w ∧ LetsOut Q) else K (a.put o.dst Go.undef) w) : if c then o.wp P a w K' Q ∨ (o.asks P a w ∧ LetsOut Q) else K' (a.put o.dst Go.undef) w := by
  split
  · rename_i hc; rw [if_pos hc] at hh; exact hh.imp (wp_near h) id
  · rename_i hc; rw [if_neg hc] at hh; exact h _ _ (near_put _ _ _) hh
def AV.zeroC : AV → Bool
  | .int .. | .bool _ | .str _ | .snil | .pnil | .fnil => true
  | _ => false
theorem Rel.zeroC {w w' : World} {own own' : Nat → Prop} {π π' : PlF} {n n' : Nat} {x : AV} {v : Value} (h : Rel w own π n x v) (hz : x.zeroC = true) : Rel w' own' π' n' x v := by
  cases h <;> simp only [AV.zeroC, Bool.false_eq_true] at hz
  · exact .int _ _
  · exact .bool _
  · exact .str _
  · exact .snil _
  · exact .pnil
  · exact .fnil
def pass1 (w0 : World) (pass : Nat → Prop) (b : Nat) : Nat → Prop := fun g => (w0.heap.size ≤ g ∨ pass g) ∧ g ≠ b
def own1 (own0 : Nat → Prop) (b : Nat) : Nat → Prop := fun g => own0 g ∨ g = b
structure Hd (w0 : World) (pass own0 : Nat → Prop) (b : Nat) (row : List AV) (w1 : World) : Prop where
  os : w1.os = w0.os
  tape : TapeLe w0 w1
  output : w1.output = w0.output
  size : w0.heap.size ≤ w1.heap.size
  kept : ∀ g, g < w0.heap.size → ¬ pass g → w1.heap[g]? = w0.heap[g]?
  lt : b < w1.heap.size
  ge : w0.heap.size ≤ b
  no0 : ¬ own0 b
  cells : ∃ cur el, w1.heap[b]? = some (.cells cur el (0, 0)) ∧ cur.size = row.length ∧ ∀ (j : Nat) x u, row[j]? = some x → cur[j]? = some u → ∀ (w : World) (own : Nat → Prop) (π : PlF) (n : Nat), Rel w own π n x u
section
variable {P : Program} {w0 : World} {pass own0 : Nat → Prop} {A : Anch} {e : Env} {h : Heap} {n N d b : Nat} {row : List AV} {a a' : Act} {w w1 : World}
theorem own_hide {π : Pl} {k : Nat × Nat × Nat} : ownOf own0 ⟨π.at', fun g => if g = b then some k else π.hid g⟩ = ownOf (own1 own0 b) π := by
  funext g
  refine propext ?_
  unfold ownOf own1
  dsimp only
  constructor
  · rintro ((h1 | h1) | h1)
    · exact .inl (.inl (.inl h1))
    · split at h1
      · rename_i hg; exact .inl (.inl (.inr hg))
      · exact .inl (.inr h1)
    · exact .inr h1
  · rintro (((h1 | h1) | h1) | h1)
    · exact .inl (.inl h1)
    · exact .inl (.inr (by rw [if_pos h1]; rfl))
    · exact .inl (.inr (by split; rfl; exact h1))
    · exact .inr h1
theorem hide (st : St w0 pass own0 A N e h n a w) (hw : w.heap.size ≤ w1.heap.size) (hk : ∀ g, g < w.heap.size → w1.heap[g]? = w.heap[g]?) (hos : w1.os = w.os) (htp : TapeLe w w1) (hout : w1.output = w.output) (hb : w.heap.size ≤ b) (hb1 : b < w1.heap.size)
    (hd : a'.defers = []) (hs : a'.tmps.size = N) (hn : Near a (some d) a') : St w1 (pass1 w0 pass b) (own1 own0 b) A N (e.upd d .top) h n a' w1 := by
  obtain ⟨_, _, π, hA, hsim, hfr, henv⟩ := st
  let π1 : Pl := ⟨π.at', fun g => if g = b then some (n, 0, 0) else π.hid g⟩
  have ho : ownOf own0 π1 = ownOf (own1 own0 b) π := own_hide
  have hidb : ∀ g k, π.hid g = some k → g ≠ b := fun g k hg he => by
    have := (hsim.hid g k hg).2.1; omega
  have m1 : Mono own0 π π1 n n w w1 := by
    refine ⟨hw, fun g hg hno => ⟨hk g hg, ?_⟩, fun id p hp => ⟨.inl hp, (hsim.lt hp).1⟩, fun id hp _ => hp, Nat.le_refl _, hos, htp, hout⟩
    rintro ((h1 | h1) | h1)
    · exact hno (.inl (.inl h1))
    · have h1 : (if g = b then some (n, 0, 0) else π.hid g).isSome = true := h1
      rw [if_neg (by omega)] at h1
      exact hno (.inl (.inr h1))
    · exact hno (.inr h1)
  have eU : ∀ π2 : Pl, (∀ g, ownOf own0 π2 g → ownOf own0 π1 g) → π2.at' = π.at' → (∀ g, (π2.hid g).isSome = true → ownOf own0 π1 g) → ownOf (ownOf own0 π1) π2 = ownOf own0 π1 := fun π2 _ h2 h3 => by
    funext g
    refine propext ⟨?_, fun hh => .inl (.inl hh)⟩
    rintro ((h4 | h4) | ⟨id, p, h4, h5⟩)
    · exact h4
    · exact h3 g h4
    · have h4 : π2.at' id = some p := h4
      rw [h2] at h4
      exact .inr ⟨id, p, h4, h5⟩
  have e1 : ownOf (ownOf own0 π1) π1 = ownOf own0 π1 := eU π1 (fun _ h => h) rfl (fun g hg => .inl (.inr hg))
  have hsub : ∀ g, (π.hid g).isSome = true → ownOf own0 π1 g := fun g hg => by
    refine .inl (.inr ?_)
    show (if g = b then some (n, 0, 0) else π.hid g).isSome = true
    split
    · rfl
    · exact hg
  have e2 : ownOf (ownOf own0 π1) π = ownOf own0 π1 := by
    funext g
    refine propext ⟨?_, fun hh => .inl (.inl hh)⟩
    rintro ((h4 | h4) | h4)
    · exact h4
    · exact hsub g h4
    · exact .inr h4
  have m2 : Mono (ownOf own0 π1) π1 π n n w1 w1 := by
    refine ⟨Nat.le_refl _, fun g hg hno => ⟨rfl, ?_⟩, fun id p hp => ⟨.inl hp, (hsim.lt hp).1⟩, fun id hp _ => hp, Nat.le_refl _, rfl, ⟨rfl, .inl (Nat.le_refl _)⟩, rfl⟩
    rw [e1] at hno; rw [e2]; exact hno
  have rel : ∀ {x : AV} {v : Value}, Rel w (ownOf own0 π) π n x v → Rel w1 (ownOf (own1 own0 b) π) π n x v := fun hr => by
    have := hr.mono m1
    rw [ho] at this
    exact this
  refine ⟨hd, hs, π, hA, ⟨hsim.dom, fun id o hid => ?_, hsim.inj, fun id p g hp hg => ?_, fun g hg => ?_, fun g k hg => ?_⟩, ⟨rfl, ⟨rfl, .inl (Nat.le_refl _)⟩, rfl, Nat.le_refl _, fun _ _ _ => rfl, fun id p g hp hg => ?_, fun g k hg => ?_⟩, fun t => ?_⟩
  · obtain ⟨g1, p, g2, g3⟩ := hsim.obj id o hid
    refine ⟨g1, p, g2, ?_⟩
    have h1 : ObjAt w1 (ownOf own0 π1) π1 n id p o := g3.mono m1 (fun g hg => hk g (hsim.blk_lt g2 hg)) (fun g i j hg => ⟨hk g (hsim.hid g _ hg).2.1, by
      show (if g = b then some (n, 0, 0) else π.hid g) = _
      rw [if_neg (hidb g _ hg)]; exact hg⟩)
    rw [← e1] at h1
    have h2 := h1.mono m2 (fun _ _ => rfl) (fun g i j hg => ⟨rfl, by
      have hg : (if g = b then some (n, 0, 0) else π.hid g) = some (id, i, j) := hg
      split at hg
      · cases hg; omega
      · exact hg⟩)
    rw [e2, ho] at h2
    exact h2
  · rintro (h1 | h1)
    · exact hsim.sep id p g hp hg h1
    · have := hsim.blk_lt hp hg; omega
  · rcases hg with h1 | h1
    · have := hsim.old g h1; omega
    · omega
  · obtain ⟨g1, g2, g3, g4⟩ := hsim.hid g k hg
    refine ⟨?_, by omega, g3, g4⟩
    rintro (h1 | h1)
    · exact g1 h1
    · exact hidb g k hg h1
  · refine .inr ⟨hfr.blk id p g hp hg, ?_⟩
    have := hsim.blk_lt hp hg; omega
  · exact .inr ⟨hfr.hid g k hg, hidb g k hg⟩
  · by_cases ht : t = d
    · subst ht
      simp only [Env.upd, if_true]
      exact .top _
    · simp only [Env.upd, if_neg ht]
      rw [hn t (fun h => ht (Option.some.inj h).symm)]
      exact rel (henv t)
theorem adopt (st : St w1 (pass1 w0 pass b) (own1 own0 b) A N e h n a w) (hh : Hd w0 pass own0 b row w1) (hp : a.tmps.getD d Go.undef = .pointer (some ⟨b, 0, none⟩)) : St w0 pass own0 A N (e.upd d (.ptr n 0 0)) (h.set n (.box row)) (n + 1) a w := by
  obtain ⟨hd, hs, π, hA, hsim, hfr, henv⟩ := st
  have hpn : π n = none := by
    cases hx : π n with
    | none => rfl
    | some p => have := (hsim.lt hx).1; omega
  let p : Place := ⟨some b, 0, 0⟩
  let π' : Pl := plAdd π none n p
  have at' : ∀ id, π' id = if id = n then some p else π id := fun id => by
    show (plAdd π none n p) id = _
    rw [plAdd_at]
    split
    · rfl
    · simp
  have hid' : ∀ g, π'.hid g = π.hid g := fun g => by
    show (π.hid g).map _ = _
    cases π.hid g <;> simp
  have nob : ∀ id q, π id = some q → q.blk ≠ some b := fun id q hq hb => hsim.sep id q b hq hb (.inr rfl)
  have ho : ownOf (own1 own0 b) π = ownOf own0 π' := by
    funext g
    refine propext ?_
    unfold ownOf own1
    constructor
    · rintro (((h1 | h1) | h1) | ⟨id, q, h1, h2⟩)
      · exact .inl (.inl h1)
      · exact .inr ⟨n, p, by rw [at', if_pos rfl], by rw [h1]⟩
      · exact .inl (.inr (by rw [hid']; exact h1))
      · refine .inr ⟨id, q, ?_, h2⟩
        rw [at', if_neg (fun hh => by rw [hh, hpn] at h1; cases h1)]; exact h1
    · rintro ((h1 | h1) | ⟨id, q, h1, h2⟩)
      · exact .inl (.inl (.inl h1))
      · exact .inl (.inr (by rw [hid'] at h1; exact h1))
      · rw [at'] at h1
        split at h1
        · cases h1
          have h2 : some b = some g := h2
          exact .inl (.inl (.inr (Option.some.inj h2).symm))
        · exact .inr ⟨id, q, h1, h2⟩
  let U := ownOf own0 π'
  have eU : ownOf U π' = U := by
    funext g
    refine propext ⟨?_, fun hh => .inl (.inl hh)⟩
    rintro ((h4 | h4) | h4)
    · exact h4
    · exact .inl (.inr h4)
    · exact .inr h4
  have eV : ownOf U π = U := by
    funext g
    refine propext ⟨?_, fun hh => .inl (.inl hh)⟩
    rintro ((h4 | h4) | ⟨id, q, h4, h5⟩)
    · exact h4
    · exact .inl (.inr (by rw [hid']; exact h4))
    · refine .inr ⟨id, q, ?_, h5⟩
      rw [at', if_neg (fun hh => by rw [hh, hpn] at h4; cases h4)]; exact h4
  have m : Mono U π π' n (n + 1) w w := by
    refine ⟨Nat.le_refl _, fun g hg hno => ⟨rfl, ?_⟩, fun id q hq => ⟨.inl ?_, (hsim.lt hq).1⟩, fun id hq hl => ?_, Nat.le_succ n, rfl, ⟨rfl, .inl (Nat.le_refl _)⟩, rfl⟩
    · rw [eV] at hno; rw [eU]; exact hno
    · rw [at', if_neg (fun hh => by rw [hh, hpn] at hq; cases hq)]; exact hq
    · rw [at', if_neg (by omega)]; exact hq
  have rel : ∀ {x : AV} {v : Value}, Rel w (ownOf (own1 own0 b) π) π n x v → Rel w (ownOf own0 π') π' (n + 1) x v := fun hr => by
    rw [ho] at hr
    have hr : Rel w U π n _ _ := hr
    rw [← eV] at hr
    have := hr.mono m
    rw [eU] at this
    exact this
  obtain ⟨cur, el, c1, c2, c3⟩ := hh.cells
  have hwb : w.heap[b]? = some (.cells cur el (0, 0)) := by
    rw [hfr.kept b hh.lt (fun hc => hc.2 rfl)]; exact c1
  refine ⟨hd, hs, π', ⟨Nat.le_succ_of_le hA.1, fun id hid => ?_⟩, ⟨fun id hid => ?_, fun id o hid => ?_, fun id id' q q' g h1 h2 h3 h4 => ?_, fun id q g h1 h2 => ?_, fun g hg => hsim.old g (.inl hg), fun g k hg => ?_⟩,
    ⟨hfr.os.trans hh.os, hfr.tape.trans hh.tape, hfr.output.trans hh.output, Nat.le_trans hh.size hfr.size, fun g hg hno => ?_, fun id q g h1 h2 => ?_, fun g k hg => ?_⟩, fun t => ?_⟩
  · rw [at', if_neg (by have := hA.1; omega)]
    exact hA.2 id hid
  · unfold Heap.set at hid
    split at hid
    · cases hid
    · rename_i hne
      rw [at', if_neg hne]
      exact hsim.dom id hid
  · unfold Heap.set at hid
    split at hid
    · rename_i he
      subst he; cases hid
      refine ⟨Nat.lt_succ_self _, p, by rw [at', if_pos rfl], b, cur, el, rfl, hwb, c2, fun j x u hx hu => c3 j x u hx hu _ _ _ _⟩
    · rename_i hne
      obtain ⟨g1, q, g2, g3⟩ := hsim.obj id o hid
      refine ⟨by omega, q, by rw [at', if_neg hne]; exact g2, ?_⟩
      rw [ho] at g3
      have g3 : ObjAt w U π n id q o := g3
      rw [← eV] at g3
      have := g3.mono m (fun _ _ => rfl) (fun g i j hg => ⟨rfl, by rw [hid']; exact hg⟩)
      rw [eU] at this
      exact this
  · rw [at'] at h1 h2
    split at h1
    · cases h1
      have h3 : some b = some g := h3
      split at h2
      · omega
      · exact absurd (h3 ▸ h4) (nob _ _ h2)
    · split at h2
      · cases h2
        have h4 : some b = some g := h4
        exact absurd (h4 ▸ h3) (nob _ _ h1)
      · exact hsim.inj id id' q q' g h1 h2 h3 h4
  · rw [at'] at h1
    split at h1
    · cases h1
      have h2 : some b = some g := h2
      cases h2
      exact hh.no0
    · exact fun hc => hsim.sep id q g h1 h2 (.inl hc)
  · rw [hid'] at hg
    obtain ⟨g1, g2, g3, g4⟩ := hsim.hid g k hg
    refine ⟨fun hc => g1 (.inl hc), g2, by omega, fun id q h1 => ?_⟩
    rw [at'] at h1
    split at h1
    · cases h1
      intro hc
      have hc : some b = some g := hc
      exact g1 (.inr (Option.some.inj hc).symm)
    · exact g4 id q h1
  · rw [hfr.kept g (Nat.lt_of_lt_of_le hg hh.size) (fun hc => ?_)]
    · exact hh.kept g hg hno
    · rcases hc.1 with h1 | h1
      · omega
      · exact hno h1
  · rw [at'] at h1
    split at h1
    · cases h1
      have h2 : some b = some g := h2
      cases h2
      exact .inl hh.ge
    · rcases hfr.blk id q g h1 h2 with h3 | h3
      · exact .inl (Nat.le_trans hh.size h3)
      · exact h3.1
  · rw [hid'] at hg
    rcases hfr.hid g k hg with h3 | h3
    · exact .inl (Nat.le_trans hh.size h3)
    · exact h3.1
  · by_cases ht : t = d
    · subst ht
      simp only [Env.upd, if_true]
      rw [hp]
      have := Rel.ptrLive (w := w) (own := ownOf own0 π') (N := n + 1) (π := π') n 0 0 b p (by rw [at', if_pos rfl]) rfl
      simpa [p] using this
    · simp only [Env.upd, if_neg ht]
      exact rel (henv t)
end
/-! ### the region -/
def isAlc (o : IOper) : Option (Nat × List AV) := match o with
  | ⟨some d, .alc row, [], none⟩ => if row.all AV.zeroC then some (d, row) else none
  | _ => none
theorem isAlc_eq {o : IOper} {d : Nat} {row : List AV} (h : isAlc o = some (d, row)) : o = ⟨some d, .alc row, [], none⟩ ∧ row.all AV.zeroC = true := by
  unfold isAlc at h
  split at h
  · split at h
    · rename_i hz
      cases h
      exact ⟨rfl, hz⟩
    · cases h
  · cases h
def isSt (o : IOper) (d : Nat) : Bool := match o with
  | ⟨none, .st _, .t d' :: _, none⟩ => d' == d
  | _ => false
def rest (m s n : Nat) : List Nat := (List.range n).filter fun i => i != m && i != s
def drsAt (ios : List IOper) : Option (Nat × Nat × Nat) := match ios.findIdx? fun o => (isAlc o).isSome with
  | some m => (match (ios[m]?).bind isAlc with
    | some (d, _) => (match ios.findIdx? fun o => isSt o d with
      | some s => some (m, s, d)
      | none => none)
    | none => none)
  | none => none
def drsOk (ops : Array Oper) (ios : List IOper) (m s d : Nat) : Bool :=
  Nat.blt m s && Nat.blt s ios.length && (match (ios[m]?).bind isAlc with
    | some (d', _) => d' == d
    | none => false) && (match ios[s]? with
    | some y => isSt y d && (rest m s s).all (fun i => match ios[i]?, ops[i]? with
      | some x, some o => !(x.reads.contains d) && x.dst != some d && (direct o).all (fun k => k < i && k != m && k != s) && (((befG ops.toList []).getD s []).contains i || (x.tag.kind == 0 && (match x.dst with
          | some t => !(y.reads.contains t)
          | none => true))) && (rest m s i).all (fun k => ((befG ops.toList []).getD i []).contains k || match ios[k]? with
          | some z => apartB z x
          | none => false)
      | _, _ => false)
    | none => false) && (match ops[m]?, ops[s]? with
    | some o, some o2 => (direct o).isEmpty && (direct o2).all (· < s) && ((befG ops.toList []).getD s []).contains m
    | _, _ => false) && (List.range' (s + 1) (ios.length - (s + 1))).all fun i => (match ops[i]? with
      | some o => (direct o).all (· < i)
      | none => false) && (List.range i).all ((befG ops.toList []).getD i []).contains
section
variable {P : Program} {w0 : World} {pass own0 : Nat → Prop} {A : Anch} {e : Env} {h : Heap} {n : Nat} {a : Act} {w : World}
theorem drwK_upd {Γ : Ctx} {d : Nat} {u : AV} : ∀ {l : List IOper} {e : Env} {h : Heap} {n : Nat} {K : Env → Heap → Nat → Prop}, (∀ x ∈ l, d ∉ x.reads ∧ x.dst ≠ some d) → drwK Γ l e h n K → drwK Γ l (e.upd d u) h n fun e' h' n' => ∃ e2, e' = e2.upd d u ∧ K e2 h' n'
  | [], e, h, n, K, _, hk => ⟨e, rfl, hk⟩
  | x :: l, e, h, n, K, hl, hk => by
    rw [drwK_cons] at hk ⊢
    obtain ⟨v, h1, n1, hs, hk⟩ := hk
    have hx := hl x (by simp)
    refine ⟨v, h1, n1, stepR_env (fun t ht => ?_) hs, ?_⟩
    · show e t = (e.upd d u) t
      unfold Env.upd
      rw [if_neg (fun hh : t = d => hx.1 (by rw [← hh]; exact ht))]
    · have := drwK_upd (u := u) (fun y hy => hl y (by simp [hy])) hk
      have hcomm : (e.upd d u).updo x.dst v = (e.updo x.dst v).upd d u := updo_comm e (some d) x.dst u v (fun t ht => by cases ht; exact hx.2)
      rw [hcomm]
      exact this
theorem drwK_mono {Γ : Ctx} {K K' : Env → Heap → Nat → Prop} (hk : ∀ e h n, K e h n → K' e h n) : ∀ {l : List IOper} {e : Env} {h : Heap} {n : Nat}, drwK Γ l e h n K → drwK Γ l e h n K'
  | [], e, h, n, h1 => hk _ _ _ h1
  | x :: l, e, h, n, h1 => by
    rw [drwK_cons] at h1 ⊢
    obtain ⟨v, g, k, g1, g2⟩ := h1
    exact ⟨v, g, k, g1, drwK_mono hk g2⟩
theorem alc_early {C : CallF} (hC : CallOk P C) {ops : Array Oper} {o : Oper} {d : Nat} {row : List AV} (hc : cOper P ops o = some ⟨some d, .alc row, [], none⟩) {N : Nat} (hdN : d < N) (hz : row.all AV.zeroC = true) (st : St w0 pass own0 A N e h n a w)
    {Q : Exit → Act → World → Prop} {KK : Act → World → Prop} (hKK : ∀ b w1 a', Hd w0 pass own0 b row w1 → St w1 (pass1 w0 pass b) (own1 own0 b) A N (e.upd d .top) h n a' w1 → a'.tmps.getD d Go.undef = .pointer (some ⟨b, 0, none⟩) → KK a' w1) :
    if Region.wanted o (yielded ops a.tmps) then o.wp P a w KK Q ∨ (o.asks P a w ∧ LetsOut Q) else KK (a.put o.dst Go.undef) w := by
  have hdst : o.dst = some d := by
    unfold cOper at hc
    split at hc
    · split at hc
      · have := congrArg (fun x : Option IOper => x.bind (·.dst)) hc
        simpa using this
      · split at hc
        · have := congrArg (fun x : Option IOper => x.bind (·.g)) hc
          simp at this
        · cases hc
    · cases hc
  have hst := st
  obtain ⟨hdef, hsz, π, hA, hsim, hfr, henv⟩ := hst
  let own9 : Nat → Prop := fun g => g < w.heap.size
  have st0 : St w (fun _ => False) own9 ⟨0, noPl⟩ N Env.top Heap.none 0 a w :=
    ⟨hdef, hsz, noPl, ⟨Nat.le_refl 0, fun id hid => absurd hid (Nat.not_lt_zero id)⟩, ⟨⟨fun _ _ => rfl, fun id o hid => (by cases hid), fun id id' p p' b hp => (by cases hp), fun id p b hp => (by cases hp), fun b hb => hb, fun b k hb => (by cases hb)⟩,
      ⟨rfl, ⟨rfl, .inl (Nat.le_refl _)⟩, rfl, Nat.le_refl _, fun _ _ _ => rfl, fun id p b hp => (by cases hp), fun b k hb => (by cases hb)⟩, fun t => .top _⟩⟩
  have key := oper_sound (P := P) hC hc (N := N) (fun t ht => by cases ht; exact hdN) st0 (K := fun e' h' n' => e' = Env.top.upd d (.ptr 0 0 0) ∧ h' = Heap.none.set 0 (.box row) ∧ n' = 1) ⟨rfl, rfl, rfl⟩ (Q := Q)
    (KK := fun a' w' => St w (fun _ => False) own9 ⟨0, noPl⟩ N (Env.top.upd d (.ptr 0 0 0)) (Heap.none.set 0 (.box row)) 1 a' w') (by rintro e' h' n' a' w' ⟨rfl, rfl, rfl⟩ st'; exact st')
  refine wpIf_near ?_ key
  intro a' w' hn st'
  rw [hdst] at hn
  obtain ⟨k1, k2, π', kA, ksim, kfr, kenv⟩ := st'
  obtain ⟨_, p, hp, b, cur, el, hb, c1, c2, c3⟩ := ksim.obj 0 (.box row) rfl
  have hptr := kenv d
  simp only [Env.upd, if_true] at hptr
  have hbw : w.heap.size ≤ b := by
    rcases kfr.blk 0 p b hp hb with h1 | h1
    · exact h1
    · exact h1.elim
  have hval : a'.tmps.getD d Go.undef = .pointer (some ⟨b, 0, none⟩) := by
    generalize a'.tmps.getD d Go.undef = v at hptr
    cases hptr with
    | ptrLive _ _ _ b' p' hp' hb' =>
      rw [hp] at hp'; cases hp'
      rw [hb] at hb'; cases hb'
      simp
    | ptrDead _ _ _ _ hp' => rw [hp] at hp'; cases hp'
  have hlt : b < w'.heap.size := (Array.getElem?_eq_some_iff.1 c1).1
  refine hKK b w' a' ⟨kfr.os.trans hfr.os, kfr.tape.trans hfr.tape, kfr.output.trans hfr.output, Nat.le_trans hfr.size kfr.size, fun g hg hno => ?_, hlt, Nat.le_trans hfr.size hbw, fun hc => ?_, cur, el, c1, c2, fun j x u hx hu w2 own2 π2 n2 => ?_⟩
    (hide st kfr.size (fun g hg => kfr.kept g hg (fun h => h)) kfr.os kfr.tape kfr.output hbw hlt k1 k2 hn) hval
  · rw [kfr.kept g (Nat.lt_of_lt_of_le hg hfr.size) (fun h => h)]
    exact hfr.kept g hg hno
  · have := hsim.old b hc; omega
  · refine (c3 j x u hx hu).zeroC ?_
    exact (List.all_eq_true.1 hz) x (List.mem_of_getElem? hx)
theorem drwK_late {Γ : Ctx} {d : Nat} : ∀ {l : List IOper} {e : Env} {h : Heap} {n : Nat} {K : Env → Heap → Nat → Prop}, (∀ x ∈ l, x.tag.kind = 0 ∧ d ∉ x.reads ∧ x.dst ≠ some d) → drwK Γ l e h n K →
    ∃ e', K e' h n ∧ (∀ t, (∀ x ∈ l, x.dst ≠ some t) → e' t = e t) ∧ ∀ (u : AV) (h2 : Heap) (n2 : Nat) (K' : Env → Heap → Nat → Prop), K' (e'.upd d u) h2 n2 → drwK Γ l (e.upd d u) h2 n2 K'
  | [], e, h, n, K, _, hk => ⟨e, hk, fun _ _ => rfl, fun _ _ _ _ hk' => hk'⟩
  | x :: l, e, h, n, K, hl, hk => by
    rw [drwK_cons] at hk
    obtain ⟨v, h1, n1, hs, hk⟩ := hk
    obtain ⟨x1, x2, x3⟩ := hl x (by simp)
    obtain ⟨rfl, rfl⟩ := stepR_quiet (by omega) hs
    obtain ⟨e', g1, g2, g3⟩ := drwK_late (d := d) (fun y hy => hl y (by simp [hy])) hk
    refine ⟨e', g1, fun t ht => ?_, fun u h2 n2 K' hk' => ?_⟩
    · rw [g2 t (fun y hy => ht y (by simp [hy])), updo_ne _ _ _ _ (fun d' hd' he => ht x (by simp) (by rw [hd', he]))]
    · rw [drwK_cons]
      refine ⟨v, h2, n2, stepR_env (fun t ht => ?_) (stepR_map (fun q => opD_pure x1 q) hs), ?_⟩
      · show e t = (e.upd d u) t
        unfold Env.upd
        rw [if_neg (fun hh : t = d => x2 (by rw [← hh]; exact ht))]
      · have hcomm : (e.upd d u).updo x.dst v = (e.updo x.dst v).upd d u := updo_comm e (some d) x.dst u v (fun t ht => by cases ht; exact x3)
        rw [hcomm]
        exact g3 u h2 n2 K' hk'
theorem opK_st {Γ : Ctx} {y : IOper} {z : Nat} (ht : y.tag = .st z) {e : Env} {h : Heap} {n : Nat} {K : Kont} : opK Γ y e h n K = sem (.st z) (y.args.map (Opd.ev e)) h n K := by
  obtain ⟨d, t, us, g⟩ := y
  dsimp only at ht
  subst ht
  rfl
theorem mem_rest {m s n i : Nat} : i ∈ rest m s n ↔ i < n ∧ i ≠ m ∧ i ≠ s := by
  simp [rest]
def others (listed : Array Bool) (m s n : Nat) : List Nat := (unlisted listed n).filter fun i => i != m && i != s
theorem mem_others {listed : Array Bool} {m s n i : Nat} : i ∈ others listed m s n ↔ (i < n ∧ listed.getD i true = false) ∧ i ≠ m ∧ i ≠ s := by
  unfold others
  rw [List.mem_filter, mem_unlisted]
  simp
theorem others_split {listed : Array Bool} {m s n i : Nat} (hi : i < n) (hl : listed.getD i true = false) (hm : i ≠ m) (hs : i ≠ s) :
    ∃ l r, others listed m s n = l ++ i :: r ∧ others (listed.setIfInBounds i true) m s n = l ++ r ∧ ∀ x ∈ l, x < i ∧ listed.getD x true = false ∧ x ≠ m ∧ x ≠ s := by
  obtain ⟨l, r, h1, h2, h3⟩ := unlisted_split (m := n) hi hl
  refine ⟨l.filter fun i => i != m && i != s, r.filter fun i => i != m && i != s, ?_, ?_, fun x hx => ?_⟩
  · unfold others
    rw [h1, List.filter_append, List.filter_cons, if_pos (by simp [hm, hs])]
  · unfold others
    rw [h2, List.filter_append]
  · rw [List.mem_filter] at hx
    obtain ⟨g1, g2⟩ := h3 x hx.1
    simp at hx
    exact ⟨g1, g2, hx.2⟩
theorem others_same {listed : Array Bool} {m s n i : Nat} (h : i = m ∨ i = s) : others (listed.setIfInBounds i true) m s n = others listed m s n := by
  unfold others unlisted
  rw [List.filter_filter, List.filter_filter]
  refine List.filter_congr fun k hk => ?_
  by_cases hk2 : i = k
  · subst hk2
    rcases h with rfl | rfl <;> simp
  · rw [getD_set _ hk2]
theorem cOper_dst {ops : Array Oper} {o : Oper} {io : IOper} (hco : cOper P ops o = some io) : io.dst = o.dst := by
  unfold cOper at hco
  split at hco
  · split at hco
    · cases hco; rfl
    · split at hco
      · cases hco; rfl
      · cases hco
  · cases hco
section
variable {Γ : Ctx} {ops : Array Oper} {ios : List IOper} {N : Nat} {Q : Exit → Act → World → Prop} {K : Env → Heap → Nat → Prop} {m s d : Nat} {row : List AV} {y : IOper}
structure DrsC (ops : Array Oper) (ios : List IOper) (m s d : Nat) (row : List AV) (y : IOper) : Prop where
  ms : m < s
  sl : s < ios.length
  alc : ios[m]? = some ⟨some d, .alc row, [], none⟩
  zero : row.all AV.zeroC = true
  wr : ios[s]? = some y
  wd : y.dst = none ∧ y.g = none
  wt : ∃ z, y.tag = .st z
  fresh : ∀ (i : Nat) x, i ≠ m → i < s → ios[i]? = some x → d ∉ x.reads ∧ x.dst ≠ some d
  dir : ∀ (i : Nat) o, i ≠ m → i < s → ops[i]? = some o → ∀ k ∈ direct o, k < i ∧ k ≠ m ∧ k ≠ s
  late : ∀ (i : Nat) x, i ≠ m → i < s → ios[i]? = some x → i ∈ (befG ops.toList []).getD s [] ∨ (x.tag.kind = 0 ∧ ∀ t, x.dst = some t → t ∉ y.reads)
  apart : ∀ (i k : Nat) x, i ≠ m → i < s → k ≠ m → k < i → ios[i]? = some x → k ∈ (befG ops.toList []).getD i [] ∨ ∃ z, ios[k]? = some z ∧ apartB z x = true
  dm : ∀ o, ops[m]? = some o → direct o = []
  ds : ∀ o, ops[s]? = some o → ∀ k ∈ direct o, k < s
  mb : m ∈ (befG ops.toList []).getD s []
  tail : ∀ i, s < i → i < ios.length → ∀ k, k < i → k ∈ (befG ops.toList []).getD i []
  dirT : ∀ (i : Nat) o, s < i → ops[i]? = some o → ∀ k ∈ direct o, k < i
theorem drsC_of (hlen : ios.length = ops.size) (h : drsOk ops ios m s d = true) : ∃ row y, DrsC ops ios m s d row y := by
  unfold drsOk at h
  simp only [Bool.and_eq_true] at h
  obtain ⟨⟨⟨⟨⟨h1, h2⟩, h3⟩, h4⟩, h5⟩, h7⟩ := h
  have h1 : m < s := by simpa using h1
  have h2 : s < ios.length := by simpa using h2
  split at h3
  case h_2 => cases h3
  rename_i d' row hal
  obtain rfl : d' = d := by simpa using h3
  obtain ⟨x, hx, hxa⟩ := Option.bind_eq_some_iff.1 hal
  obtain ⟨rfl, hz⟩ := isAlc_eq hxa
  split at h4
  case h_2 => cases h4
  rename_i y hy
  simp only [Bool.and_eq_true, List.all_eq_true] at h4
  obtain ⟨h4, h6⟩ := h4
  have hyd : (y.dst = none ∧ y.g = none) ∧ ∃ z, y.tag = .st z := by
    unfold isSt at h4
    split at h4
    · exact ⟨⟨rfl, rfl⟩, _, rfl⟩
    · cases h4
  split at h5
  case h_2 => cases h5
  rename_i o o2 ho ho2
  simp only [Bool.and_eq_true, List.isEmpty_iff, List.all_eq_true, decide_eq_true_eq, List.contains_iff_mem] at h5
  have key : ∀ (i : Nat) x o, i ≠ m → i < s → ios[i]? = some x → ops[i]? = some o → (d' ∉ x.reads ∧ x.dst ≠ some d') ∧ (∀ k ∈ direct o, k < i ∧ k ≠ m ∧ k ≠ s) ∧ (i ∈ (befG ops.toList []).getD s [] ∨ (x.tag.kind = 0 ∧ ∀ t, x.dst = some t → t ∉ y.reads)) ∧
      ∀ k, k ≠ m → k < i → k ∈ (befG ops.toList []).getD i [] ∨ ∃ z, ios[k]? = some z ∧ apartB z x = true := by
    intro i x o hm hs hx ho
    have hil := (List.getElem?_eq_some_iff.1 hx).1
    have := h6 i (mem_rest.2 ⟨hs, hm, by omega⟩)
    simp only [hx, ho, Bool.and_eq_true, Bool.or_eq_true, List.all_eq_true, List.contains_iff_mem, Bool.not_eq_true', bne_iff_ne, ne_eq, decide_eq_true_eq, beq_iff_eq] at this
    obtain ⟨⟨⟨⟨a1, a2⟩, a3⟩, a4⟩, a5⟩ := this
    refine ⟨⟨fun hc => ?_, a2⟩, fun k hk => ⟨(a3 k hk).1.1, (a3 k hk).1.2, (a3 k hk).2⟩, ?_, fun k hkm hki => ?_⟩
    · rw [← Bool.not_eq_true, List.contains_iff_mem] at a1; exact a1 hc
    · rcases a4 with a4 | ⟨a4, a6⟩
      · exact .inl a4
      · refine .inr ⟨a4, fun t ht => ?_⟩
        rw [ht] at a6
        simpa using a6
    · rcases a5 k (mem_rest.2 ⟨hki, hkm, by omega⟩) with a6 | a6
      · exact .inl a6
      · split at a6
        · rename_i z hz; exact .inr ⟨z, hz, a6⟩
        · cases a6
  have hops : ∀ (i : Nat) x, ios[i]? = some x → ∃ o, ops[i]? = some o := fun i x hx => ⟨ops[i]'(by have := (List.getElem?_eq_some_iff.1 hx).1; omega), Array.getElem?_eq_getElem (by have := (List.getElem?_eq_some_iff.1 hx).1; omega)⟩
  have hios : ∀ (i : Nat) o, ops[i]? = some o → ∃ x, ios[i]? = some x := fun i o ho => ⟨ios[i]'(by have := (Array.getElem?_eq_some_iff.1 ho).1; omega), List.getElem?_eq_getElem (by have := (Array.getElem?_eq_some_iff.1 ho).1; omega)⟩
  refine ⟨row, y, h1, h2, hx, hz, hy, hyd.1, hyd.2, fun i x hm hs hx => ?_, fun i o hm hs ho => ?_, fun i x hm hs hx => ?_, fun i k x hm hs hkm hki hx => ?_, fun o' ho' => ?_, fun o' ho' => ?_, h5.2, fun i hs hi k hk => ?_, fun i o' hs ho' k hk => ?_⟩
  · obtain ⟨o, ho⟩ := hops i x hx; exact (key i x o hm hs hx ho).1
  · obtain ⟨x, hx⟩ := hios i o ho; exact (key i x o hm hs hx ho).2.1
  · obtain ⟨o, ho⟩ := hops i x hx; exact (key i x o hm hs hx ho).2.2.1
  · obtain ⟨o, ho⟩ := hops i x hx; exact (key i x o hm hs hx ho).2.2.2 k hkm hki
  · rw [ho] at ho'; cases ho'; exact h5.1.1
  · rw [ho2] at ho'; cases ho'; exact h5.1.2
  · have := (List.all_eq_true.1 h7) i (List.mem_range'_1.2 ⟨by omega, by omega⟩)
    simp only [Bool.and_eq_true, List.all_eq_true, List.mem_range, List.contains_iff_mem] at this
    exact this.2 k hk
  · have hi := (Array.getElem?_eq_some_iff.1 ho').1
    have := (List.all_eq_true.1 h7) i (List.mem_range'_1.2 ⟨by omega, by omega⟩)
    simp only [ho', Bool.and_eq_true, List.all_eq_true, decide_eq_true_eq] at this
    exact this.1 k hk
def DrsI (w0 : World) (pass own0 : Nat → Prop) (A : Anch) (Γ : Ctx) (N m s d : Nat) (row : List AV) (y : IOper) (tl : List IOper) (K : Env → Heap → Nat → Prop) (listed : Array Bool) (yl : List IOper) (e : Env) (h : Heap) (n : Nat) (a : Act) (w : World) : Prop :=
  (listed.getD m true = false ∧ listed.getD s true = false ∧ St w0 pass own0 A N e h n a w ∧ drwK Γ yl e h n fun e' h' n' => regK Γ (y :: tl) (e'.upd d (.ptr n' 0 0)) (h'.set n' (.box row)) (n' + 1) K) ∨
  (listed.getD m true = true ∧ listed.getD s true = false ∧ ∃ b w1, Hd w0 pass own0 b row w1 ∧ St w1 (pass1 w0 pass b) (own1 own0 b) A N e h n a w ∧ a.tmps.getD d Go.undef = .pointer (some ⟨b, 0, none⟩) ∧
    drwK Γ yl e h n fun e' h' n' => regK Γ (y :: tl) (e'.upd d (.ptr n' 0 0)) (h'.set n' (.box row)) (n' + 1) K) ∨
  (listed.getD m true = true ∧ listed.getD s true = true ∧ St w0 pass own0 A N e h n a w ∧ drwK Γ yl e h n fun e' h' n' => regK Γ tl e' h' n' K)
theorem others_tail {listed : Array Bool} {m s i : Nat} (h : s ≤ i) : others (listed.setIfInBounds i true) m s s = others listed m s s := by
  unfold others unlisted
  rw [List.filter_filter, List.filter_filter]
  refine List.filter_congr fun k hk => ?_
  rw [getD_set _ (by simp at hk; omega)]
theorem drs_any (hC : CallOk P (CD Γ)) (hCK : CallOk P (CK Γ)) (hc : ∀ (i : Nat) io, ios[i]? = some io → ∃ o, ops[i]? = some o ∧ cOper P ops o = some io ∧ ∀ t, io.dst = some t → t < N) (hlen : ios.length = ops.size) (D : DrsC ops ios m s d row y)
    (hQ : ∀ e' h' n' a' w', K e' h' n' → St w0 pass own0 A N e' h' n' a' w' → Q .normal a' w') :
    ∀ (fuel : Nat) (listed : Array Bool) (yl : List IOper) (e : Env) (h : Heap) (n : Nat) (a : Act) (w : World), listed.size = ops.size → (unlisted listed ops.size).length = fuel →
      (others listed m s s).map (fun i => ios[i]?) = yl.map some → Closed ops (fun k => listed.getD k false = true) →
      ((∀ j, s < j → j < ops.size → listed.getD j true = false) ∧ DrsI w0 pass own0 A Γ N m s d row y (ios.drop (s + 1)) K listed yl e h n a w ∨
        ∃ t, s < t ∧ (∀ j, j < ops.size → (listed.getD j true = true ↔ j < t)) ∧ St w0 pass own0 A N e h n a w ∧ regK Γ (ios.drop t) e h n K) → wpAny P .any ops Q fuel listed a w := by
  have hms := D.ms
  have hsl := D.sl
  have hDF : ∀ (listed : Array Bool) (i : Nat), i < listed.size → (listed.getD i true = false ↔ ¬ listed.getD i false = true) := by
    intro listed i hi
    simp [Array.getD_eq_getD_getElem?, hi]
  have hdlt : ∀ (i : Nat) o, ops[i]? = some o → ∀ k ∈ direct o, k < i := fun i o ho k hk => by
    by_cases h1 : i = m
    · subst h1; rw [D.dm o ho] at hk; cases hk
    · by_cases h2 : i = s
      · subst h2; exact D.ds o ho k hk
      · rcases Nat.lt_or_ge s i with h3 | h3
        · exact D.dirT i o h3 ho k hk
        · exact (D.dir i o h1 (by omega) ho k hk).1
  intro fuel
  induction fuel with
  | zero =>
    intro listed yl e h n a w hs hf hyl hcl hph
    have hnil : unlisted listed ops.size = [] := List.eq_nil_of_length_eq_zero hf
    have hall : ∀ i, i < ops.size → listed.getD i true = true := fun i hi => by
      cases hg : listed.getD i true with
      | true => rfl
      | false => have := mem_unlisted.2 ⟨hi, hg⟩; rw [hnil] at this; cases this
    have hyn : yl = [] := by
      have : others listed m s s = [] := by
        cases ho : others listed m s s with
        | nil => rfl
        | cons k r =>
          have := mem_others.1 (by rw [ho]; simp : k ∈ others listed m s s)
          rw [hall k (by omega)] at this
          exact absurd this.1.2 (by simp)
      rw [this] at hyl
      cases yl <;> simp_all
    subst hyn
    have hst : ∃ t, ops.size ≤ t ∧ St w0 pass own0 A N e h n a w ∧ regK Γ (ios.drop t) e h n K := by
      rcases hph with ⟨ht, hph⟩ | ⟨t, t1, t2, t3, t4⟩
      · rcases hph with ⟨p1, _⟩ | ⟨_, p1, _⟩ | ⟨_, _, p3, p4⟩
        · rw [hall m (by omega)] at p1; cases p1
        · rw [hall s (by omega)] at p1; cases p1
        · refine ⟨s + 1, ?_, p3, p4⟩
          refine Nat.le_of_not_lt fun hlt => ?_
          have := ht (s + 1) (by omega) hlt
          rw [hall _ hlt] at this; cases this
      · refine ⟨t, Nat.le_of_not_lt fun hlt => ?_, t3, t4⟩
        have := (t2 t hlt).1 (hall t hlt)
        omega
    obtain ⟨t, t1, p3, p4⟩ := hst
    · rw [List.drop_eq_nil_of_le (by omega)] at p4
      refine ⟨?_, hQ _ _ _ _ _ p4 p3⟩
      cases hr : Region.ready .any ops listed with
      | nil => rfl
      | cons k r =>
        have := (mem_ready (md := .any) (ops := ops) (listed := listed) (j := k)).1 (by rw [hr]; simp)
        obtain ⟨q1, o2, q2, _⟩ := this
        rw [hall k (Array.getElem?_eq_some_iff.1 q2).1] at q1; cases q1
  | succ fuel ih =>
    intro listed yl e h n a w hs hf hyl hcl hph
    have hgood := befG_good hcl ops.toList [] (fun i o h => by simpa using h) (fun j l o hj => by simp at hj)
    refine ⟨fun hr => ?_, fun i hi => ?_⟩
    · -- the least that is not listed is ready
      exfalso
      have hne : ∃ i, i < ops.size ∧ listed.getD i true = false ∧ ∀ j, j < i → ¬ listed.getD j true = false := by
        have hex : ∃ i, i < ops.size ∧ listed.getD i true = false := by
          cases hu : unlisted listed ops.size with
          | nil => rw [hu] at hf; cases hf
          | cons i r => exact ⟨i, mem_unlisted.1 (by rw [hu]; simp)⟩
        obtain ⟨k, hk⟩ := hex
        induction k using Nat.strongRecOn with
        | _ k ihk =>
          by_cases hc : ∃ j, j < k ∧ listed.getD j true = false
          · obtain ⟨j, g1, g2⟩ := hc
            exact ihk j g1 ⟨by omega, g2⟩
          · exact ⟨k, hk.1, hk.2, fun j hj hh => hc ⟨j, hj, hh⟩⟩
      obtain ⟨i, hi, hl, hlow⟩ := hne
      have hir : i ∈ Region.ready .any ops listed := by
        rw [mem_ready]
        refine ⟨hl, ops[i], Array.getElem?_eq_getElem hi, fun ed he hb => ?_⟩
        have hd : ed.on ∈ direct ops[i] := by
          simp only [direct, List.mem_map, List.mem_filter]
          exact ⟨ed, ⟨by simpa using he, hb⟩, rfl⟩
        have hlt := hdlt i _ (Array.getElem?_eq_getElem hi) _ hd
        by_cases hn : listed.getD ed.on false = true
        · exact hn
        · exact absurd ((hDF listed ed.on (by omega)).2 hn) (hlow _ hlt)
      rw [hr] at hir
      simp at hir
    · rw [mem_ready] at hi
      obtain ⟨hl, o, ho, hed⟩ := hi
      have him : i < ops.size := (Array.getElem?_eq_some_iff.1 ho).1
      have hdir : ∀ d ∈ direct o, listed.getD d false = true := by
        intro d hd
        simp only [direct, List.mem_map, List.mem_filter] at hd
        obtain ⟨ed, ⟨g1, g2⟩, rfl⟩ := hd
        exact hed ed (by simpa using g1) g2
      have hcl' : Closed ops (fun k => (listed.setIfInBounds i true).getD k false = true) := by
        intro j oj hoj hj d hd
        have hgd : ∀ k, listed.getD k false = true → (listed.setIfInBounds i true).getD k false = true := by
          intro k hk
          by_cases hik : i = k
          · subst hik; simp [Array.getD_eq_getD_getElem?, hs, him]
          · rw [getD_set _ hik]; exact hk
        by_cases hij : i = j
        · subst hij
          rw [ho] at hoj; cases hoj
          exact hgd d (hdir d hd)
        · rw [getD_set _ hij] at hj
          exact hgd d (hcl j oj hoj hj d hd)
      have hlen' : (unlisted (listed.setIfInBounds i true) ops.size).length = fuel := by
        obtain ⟨l, r, h1, h2, h3⟩ := unlisted_split (m := ops.size) him hl
        rw [h1] at hf; rw [h2]
        simp at hf ⊢; omega
      have hsz' : (listed.setIfInBounds i true).size = ops.size := by simpa using hs
      have hset : (listed.setIfInBounds i true).getD i true = true := by
        simp [Array.getD_eq_getD_getElem?, Array.getElem?_setIfInBounds_self]
        split <;> simp
      have hbef : ∀ k, k ∈ (befG ops.toList []).getD i [] → listed.getD k false = true := fun k hb => by
        have : (befG ops.toList [])[i]? = some ((befG ops.toList []).getD i []) := by
          rw [List.getD_eq_getElem?_getD] at hb ⊢
          cases hh : (befG ops.toList [])[i]? with
          | none => rw [hh] at hb; simp at hb
          | some z => rfl
        exact hgood i _ o this ho hdir _ hb
      have hylm : ∀ x ∈ yl, ∃ k, ios[k]? = some x ∧ (k < s ∧ listed.getD k true = false) ∧ k ≠ m ∧ k ≠ s := by
        intro x hx
        obtain ⟨q, hq⟩ := List.getElem?_of_mem hx
        have hll : (others listed m s s).length = yl.length := by simpa using congrArg List.length hyl
        have hqlt := (List.getElem?_eq_some_iff.1 hq).1
        obtain ⟨io', w1, w2⟩ := mapM_at hyl (i := q) (k := (others listed m s s)[q]'(by omega)) (List.getElem?_eq_getElem (by omega))
        rw [hq] at w2; cases w2
        exact ⟨_, w1, mem_others.1 (List.getElem_mem (show q < (others listed m s s).length by omega))⟩
      unfold wpOp
      simp only [ho]
      by_cases htl : s < i
      · -- behind the write, in order
        obtain ⟨io, hio⟩ : ∃ io, ios[i]? = some io := ⟨ios[i]'(by omega), List.getElem?_eq_getElem (by omega)⟩
        obtain ⟨o', ho', hco, hdst⟩ := hc i io hio
        rw [ho] at ho'; cases ho'
        have hall : ∀ k, k < i → listed.getD k true = true := fun k hk => by
          have := hbef k (D.tail i htl (by omega) k hk)
          cases hg : listed.getD k true with
          | true => rfl
          | false => exact absurd this ((hDF listed k (by omega)).1 hg)
        have hst : (∀ j, j < ops.size → (listed.getD j true = true ↔ j < i)) ∧ St w0 pass own0 A N e h n a w ∧ regK Γ (ios.drop i) e h n K := by
          rcases hph with ⟨ht, hph⟩ | ⟨t, t1, t2, t3, t4⟩
          · have hi1 : i = s + 1 := by
              refine Classical.byContradiction fun hn => ?_
              have := ht (s + 1) (by omega) (by omega)
              rw [hall (s + 1) (by omega)] at this; cases this
            rcases hph with ⟨p1, _⟩ | ⟨_, p1, _⟩ | ⟨_, _, p3, p4⟩
            · rw [hall m (by omega)] at p1; cases p1
            · rw [hall s (by omega)] at p1; cases p1
            · have hyn : yl = [] := by
                have : others listed m s s = [] := by
                  cases ho : others listed m s s with
                  | nil => rfl
                  | cons k r =>
                    have := mem_others.1 (by rw [ho]; simp : k ∈ others listed m s s)
                    rw [hall k (by omega)] at this
                    exact absurd this.1.2 (by simp)
                rw [this] at hyl
                cases yl <;> simp_all
              subst hyn
              subst hi1
              refine ⟨fun j hj => ⟨fun hl => ?_, fun hl => hall j hl⟩, p3, p4⟩
              refine Nat.lt_of_not_le fun hle => ?_
              rw [ht j (by omega) hj] at hl; cases hl
          · have : i = t := by
              have h1 := (t2 i him)
              rw [hl] at h1
              have h2 : ¬ i < t := fun hh => by have := h1.2 hh; cases this
              rcases Nat.lt_or_ge t i with h3 | h3
              · have := (t2 t (by omega)).1 (hall t h3); omega
              · omega
            subst this
            exact ⟨t2, t3, t4⟩
        obtain ⟨hl2, hst, hk⟩ := hst
        have hdr : ios.drop i = io :: ios.drop (i + 1) := by
          rw [List.drop_eq_getElem_cons (by omega)]
          congr 1
          have := (List.getElem?_eq_some_iff.1 hio).2
          exact this
        rw [hdr] at hk
        refine oper_soundN (P := P) hCK hco hdst hst (K := fun e h n => regK Γ (ios.drop (i + 1)) e h n K) hk ?_
        intro e' h' n' a' w' hk' st'
        refine ih _ yl e' h' n' a' w' hsz' hlen' (by rw [others_tail (by omega)]; exact hyl) hcl' (.inr ⟨i + 1, by omega, fun j hj => ?_, st', hk'⟩)
        by_cases hij : i = j
        · subst hij; exact ⟨fun _ => by omega, fun _ => hset⟩
        · rw [getD_set _ hij, hl2 j hj]; omega
      have hph : (∀ j, s < j → j < ops.size → listed.getD j true = false) ∧ DrsI w0 pass own0 A Γ N m s d row y (ios.drop (s + 1)) K listed yl e h n a w := by
        rcases hph with hph | ⟨t, t1, t2, _⟩
        · exact hph
        · have := (t2 i him).2 (by omega)
          rw [this] at hl; cases hl
      obtain ⟨ht, hph⟩ := hph
      have ht' : ∀ j, s < j → j < ops.size → (listed.setIfInBounds i true).getD j true = false := fun j h1 h2 => by
        rw [getD_set _ (by omega)]; exact ht j h1 h2
      by_cases heq : i = m
      · -- the variable
        subst heq
        obtain ⟨o', ho', hco, hdst⟩ := hc i _ D.alc
        rw [ho] at ho'; cases ho'
        rcases hph with ⟨p1, p1s, p2, p3⟩ | ⟨p1, _⟩ | ⟨p1, _⟩
        · refine alc_early hC hco (hdst d rfl) D.zero p2 ?_
          intro b w1 a' q1 q2 q3
          refine ih _ yl (e.upd d .top) h n a' w1 hsz' hlen' (by rw [others_same (.inl rfl)]; exact hyl) hcl' (.inl ⟨ht', .inr (.inl ⟨hset, by rw [getD_set _ (by omega)]; exact p1s, b, w1, q1, q2, q3, ?_⟩)⟩)
          have hsub : ∀ x ∈ yl, d ∉ x.reads ∧ x.dst ≠ some d := fun x hx => by
            obtain ⟨k, k1, ⟨k4, _⟩, k2, k3⟩ := hylm x hx
            exact D.fresh k x k2 k4 k1
          have := drwK_upd (u := .top) hsub p3
          refine drwK_mono ?_ this
          rintro e' h' n' ⟨e2, rfl, hk⟩
          have : (e2.upd d .top).upd d (.ptr n' 0 0) = e2.upd d (.ptr n' 0 0) := by
            funext t; unfold Env.upd; split <;> rfl
          rw [this]; exact hk
        · rw [p1] at hl; cases hl
        · rw [p1] at hl; cases hl
      · by_cases hes : i = s
        · -- the write
          subst hes
          obtain ⟨o', ho', hco, hdst⟩ := hc i _ D.wr
          rw [ho] at ho'; cases ho'
          have hlm : listed.getD m true = true := by
            have := hbef m D.mb
            cases hg : listed.getD m true with
            | true => rfl
            | false => exact absurd this ((hDF listed m (by omega)).1 hg)
          rcases hph with ⟨p1, _⟩ | ⟨_, p1s, b, w1, p2, p3, p4, p5⟩ | ⟨_, p1, _⟩
          · rw [hlm] at p1; cases p1
          · have st' := adopt (row := row) p3 p2 p4
            have h0 : ∀ x ∈ yl, (x.tag.kind = 0 ∧ d ∉ x.reads ∧ x.dst ≠ some d) ∧ ∀ t, x.dst = some t → t ∉ y.reads := fun x hx => by
              obtain ⟨k, k1, ⟨k4, k5⟩, k2, k3⟩ := hylm x hx
              have hfr := D.fresh k x k2 k4 k1
              rcases D.late k x k2 k4 k1 with h | ⟨h, h'⟩
              · exact absurd (hbef k h) ((hDF listed k (by omega)).1 k5)
              · exact ⟨⟨h, hfr⟩, h'⟩
            obtain ⟨e', g1, g2, g3⟩ := drwK_late (d := d) (fun x hx => (h0 x hx).1) p5
            have hy1 := D.wd.1
            have hy2 := D.wd.2
            have hargs : y.args.map (Opd.ev (e'.upd d (.ptr n 0 0))) = y.args.map (Opd.ev (e.upd d (.ptr n 0 0))) := by
              refine ev_congr _ fun t ht => ?_
              unfold Env.upd
              split
              · rfl
              · refine g2 t fun x hx hd => (h0 x hx).2 t hd ?_
                simp only [IOper.reads, List.mem_append, List.mem_filterMap]
                exact .inl ⟨.t t, ht, rfl⟩
            obtain ⟨T, hT⟩ : ∃ T : Env → Heap → Nat → Prop, T = fun e3 h3 n3 => regK Γ (ios.drop (i + 1)) e3 h3 n3 K := ⟨_, rfl⟩
            have hk : regK Γ [y] (e.upd d (.ptr n 0 0)) (h.set n (.box row)) (n + 1) fun e2 h2 n2 => drwK Γ yl e2 h2 n2 T := by
              have g1 : guardK y (e'.upd d (.ptr n 0 0)) (opK Γ y (e'.upd d (.ptr n 0 0)) (h.set n (.box row)) (n + 1) fun v h' n' => T ((e'.upd d (.ptr n 0 0)).updo y.dst v) h' n') (T ((e'.upd d (.ptr n 0 0)).updo y.dst .undef) (h.set n (.box row)) (n + 1)) := by rw [hT]; exact g1
              show guardK y (e.upd d (.ptr n 0 0)) (opK Γ y (e.upd d (.ptr n 0 0)) (h.set n (.box row)) (n + 1) fun v h' n' => drwK Γ yl ((e.upd d (.ptr n 0 0)).updo y.dst v) h' n' T) _
              unfold guardK at g1 ⊢
              rw [hy2] at g1 ⊢
              rw [hy1] at g1 ⊢
              have e0 : ∀ (e : Env) (v : AV), e.updo none v = e := fun _ _ => rfl
              simp only [e0] at g1 ⊢
              obtain ⟨z, hz⟩ := D.wt
              rw [opK_st hz, hargs, sem_ang] at g1
              rw [opK_st hz, sem_ang]
              obtain ⟨v, h', n', q1, q2⟩ := g1
              exact ⟨v, h', n', q1, g3 _ h' n' T q2⟩
            refine oper_soundN (P := P) hCK hco hdst st' (K := fun e2 h2 n2 => drwK Γ yl e2 h2 n2 T) hk ?_
            intro e2 h2 n2 a' w' hk2 st2
            subst hT
            exact ih _ yl e2 h2 n2 a' w' hsz' hlen' (by rw [others_same (.inr rfl)]; exact hyl) hcl' (.inl ⟨ht', .inr (.inr ⟨by rw [getD_set _ (by omega)]; exact hlm, hset, st2, hk2⟩)⟩)
          · rw [p1] at hl; cases hl
        · -- one of the others
          obtain ⟨l, r, g1, g2, g3⟩ := others_split (m := m) (s := s) (n := s) (show i < s by omega) hl heq hes
          rw [g1] at hyl
          obtain ⟨ya, io, yb, rfl, k1, k2, k3⟩ := split_map hyl
          obtain ⟨o', ho', hco, hdst⟩ := hc i io k1
          rw [ho] at ho'; cases ho'
          have hap : ∀ x ∈ ya, apartB x io = true := by
            intro x hx
            obtain ⟨q, hq⟩ := List.getElem?_of_mem hx
            have hll : l.length = ya.length := by simpa using congrArg List.length k2
            have hqlt := (List.getElem?_eq_some_iff.1 hq).1
            obtain ⟨io', w1, w2⟩ := mapM_at k2 (i := q) (k := l[q]'(by omega)) (List.getElem?_eq_getElem (by omega))
            rw [hq] at w2; cases w2
            obtain ⟨m1, m2, m3, m4⟩ := g3 (l[q]'(by omega)) (List.getElem_mem _)
            rcases D.apart i _ io heq (by omega) m3 m1 k1 with b2 | ⟨x', b2, b3⟩
            · exact absurd (hbef _ b2) ((hDF listed _ (by omega)).1 m2)
            · rw [w1] at b2; cases b2; exact b3
          have hodst : o.dst ≠ some d := by
            rw [← cOper_dst hco]; exact (D.fresh i io heq (by omega) k1).2
          have hmm : (listed.setIfInBounds i true).getD m true = listed.getD m true := getD_set _ heq
          have hss : (listed.setIfInBounds i true).getD s true = listed.getD s true := getD_set _ hes
          rcases hph with ⟨p1, p1s, p2, p3⟩ | ⟨p1, p1s, b, w1, p2, p3, p4, p5⟩ | ⟨p1, p1s, p2, p3⟩
          · refine oper_sound (P := P) hC hco hdst p2 (K := fun e h n => drwK Γ (ya ++ yb) e h n _) (drw_first ya e h n hap p3) ?_
            intro e' h' n' a' w' hk st'
            exact ih _ (ya ++ yb) e' h' n' a' w' hsz' hlen' (by rw [g2]; exact k3) hcl' (.inl ⟨ht', .inl ⟨by rw [hmm]; exact p1, by rw [hss]; exact p1s, st', hk⟩⟩)
          · refine wpIf_near (K := fun a' w' => ∃ e' h' n', drwK Γ (ya ++ yb) e' h' n' (fun e' h' n' => regK Γ (y :: ios.drop (s + 1)) (e'.upd d (.ptr n' 0 0)) (h'.set n' (.box row)) (n' + 1) K) ∧ St w1 (pass1 w0 pass b) (own1 own0 b) A N e' h' n' a' w') ?_
              (oper_sound (P := P) hC hco hdst p3 (K := fun e h n => drwK Γ (ya ++ yb) e h n _) (drw_first ya e h n hap p5) fun e' h' n' a' w' hk st' => ⟨e', h', n', hk, st'⟩)
            rintro a' w' hn ⟨e', h', n', hk, st'⟩
            exact ih _ (ya ++ yb) e' h' n' a' w' hsz' hlen' (by rw [g2]; exact k3) hcl' (.inl ⟨ht', .inr (.inl ⟨by rw [hmm]; exact p1, by rw [hss]; exact p1s, b, w1, p2, st', by rw [hn d hodst]; exact p4, hk⟩)⟩)
          · refine oper_sound (P := P) hC hco hdst p2 (K := fun e h n => drwK Γ (ya ++ yb) e h n _) (drw_first ya e h n hap p3) ?_
            intro e' h' n' a' w' hk st'
            exact ih _ (ya ++ yb) e' h' n' a' w' hsz' hlen' (by rw [g2]; exact k3) hcl' (.inl ⟨ht', .inr (.inr ⟨by rw [hmm]; exact p1, by rw [hss]; exact p1s, st', hk⟩)⟩)
def drsPre (ios : List IOper) (m s : Nat) : List IOper := (rest m s s).filterMap (ios[·]?)
def drsPost (ios : List IOper) (m s : Nat) : List IOper := [m, s].filterMap (ios[·]?) ++ ios.drop (s + 1)
theorem drs_sound (hC : CallOk P (CD Γ)) (hCK : CallOk P (CK Γ)) (hc : ∀ (i : Nat) io, ios[i]? = some io → ∃ o, ops[i]? = some o ∧ cOper P ops o = some io ∧ ∀ t, io.dst = some t → t < N) (hlen : ios.length = ops.size) (hok : drsOk ops ios m s d = true)
    (hQ : ∀ e' h' n' a' w', K e' h' n' → St w0 pass own0 A N e' h' n' a' w' → Q .normal a' w') (st : St w0 pass own0 A N e h n a w)
    (hk : drwK Γ (drsPre ios m s) e h n fun e' h' n' => regK Γ (drsPost ios m s) e' h' n' K) : wpAny P .any ops Q ops.size (Array.replicate ops.size false) a w := by
  obtain ⟨row, y, D⟩ := drsC_of hlen hok
  have hms := D.ms
  have hsl := D.sl
  have hpost : drsPost ios m s = ⟨some d, .alc row, [], none⟩ :: y :: ios.drop (s + 1) := by
    simp [drsPost, D.alc, D.wr]
  rw [hpost] at hk
  have hrange : ∀ k, k ≤ ops.size → unlisted (Array.replicate ops.size false) k = List.range k := by
    intro k hk
    unfold unlisted
    rw [List.filter_eq_self]
    intro i hi
    simp at hi
    simp [Array.getD_eq_getD_getElem?, show i < ops.size by omega]
  have hgd : ∀ i, i < ops.size → (Array.replicate ops.size false).getD i true = false := fun i hi => by
    simp [Array.getD_eq_getD_getElem?, hi]
  refine drs_any hC hCK hc hlen D hQ ops.size _ (drsPre ios m s) e h n a w (by simp) (by rw [hrange _ (Nat.le_refl _)]; simp) ?_ ?_ (.inl ⟨fun j _ h2 => hgd j h2, .inl ⟨hgd m (by omega), hgd s (by omega), st, hk⟩⟩)
  · unfold others drsPre rest
    rw [hrange s (by omega)]
    generalize hL : (List.range s).filter (fun i => i != m && i != s) = L
    have hLl : ∀ i ∈ L, i < ios.length := fun i hi => by
      rw [← hL, List.mem_filter] at hi
      have := List.mem_range.1 hi.1
      omega
    clear hL
    induction L with
    | nil => rfl
    | cons i L ih =>
      have hi := hLl i (by simp)
      rw [List.filterMap_cons, List.getElem?_eq_getElem hi]
      simp only [List.map_cons, List.getElem?_eq_getElem hi]
      rw [ih fun k hk => hLl k (by simp [hk])]
  · intro j oj hj hl
    exfalso
    have := (Array.getElem?_eq_some_iff.1 hj).1
    simp [Array.getD_eq_getD_getElem?, this] at hl
end
end
def dstB (N : Nat) (ios : List IOper) : Bool := ios.all fun o => match o.dst with
  | some t => decide (t < N)
  | none => true
def comp (P : Program) (N : Nat) : Code → Option ICode
  | .skip => some .skip
  | .region _ ops draw => match cOpers P ops ops.toList with
    | some ios => if dstB N ios = true then (if draw = true then (if (drwOk ops ios || drdOk ops ios) = true then some (.drw ios (befG ops.toList []) (drwOk ops ios) (drdOk ops ios)) else match drsAt ios with
        | some (m, s, d) => if drsOk ops ios m s d = true then some (.drs (drsPre ios m s) (drsPost ios m s)) else none
        | none => none) else some (.reg ios)) else none
    | none => none
  | .seq a b => match comp P N a, comp P N b with
    | some x, some y => some (.seq x y)
    | _, _ => none
  | .cond c a b => match cOpd c, comp P N a, comp P N b with
    | some z, some x, some y => some (.cond z x y)
    | _, _, _ => none
  | .block id b => (comp P N b).map (.block id)
  | .loop b => (comp P N b).map .loop
  | .exit id => some (.exit id)
  | .ret => some .ret
  | _ => none
abbrev XK := Exit → Env → Heap → Nat → Prop
def Aw (P : Program) (N k : Nat) (ic : ICode) (K : XK) (e : Env) (h : Heap) (n : Nat) : Prop :=
  ∀ c, comp P N c = some ic → ∀ (w0 : World) (pass own0 : Nat → Prop) (A : Anch), A.k = k → ∀ (a : Act) (w : World), St w0 pass own0 A N e h n a w →
    c.wp P (fun x a' w' => ∃ e' h' n', K x e' h' n' ∧ St w0 pass own0 A N e' h' n' a' w') a w
def thenK (A : Env → Heap → Nat → Prop) (K : XK) : XK
  | .normal => A
  | x => K x
def blockK (id : Nat) (K : XK) : XK
  | .exit j => if j = id then K .normal else K (.exit j)
  | x => K x
section
variable {P : Program} {N k : Nat} {Γ : Ctx} {K : XK} {e : Env} {h : Heap} {n : Nat}
theorem Aw.mono {ic : ICode} {K' : XK} (hk : ∀ x e h n, K x e h n → K' x e h n) (h1 : Aw P N k ic K e h n) : Aw P N k ic K' e h n :=
  fun c hc w0 pass own0 A hA a w st => wp_mono (h1 c hc w0 pass own0 A hA a w st) fun x _ _ ⟨e', h', n', g1, g2⟩ => ⟨e', h', n', hk x _ _ _ g1, g2⟩
theorem Aw.skip (hk : K .normal e h n) : Aw P N k .skip K e h n := by
  intro c hc w0 pass own0 A hA a w st
  cases c <;> simp only [comp] at hc <;> first | exact wp_skip ⟨e, h, n, hk, st⟩ | ((repeat' split at hc) <;> simp at hc)
theorem Aw.ret (hk : K .ret e h n) : Aw P N k .ret K e h n := by
  intro c hc w0 pass own0 A hA a w st
  cases c <;> simp only [comp] at hc <;> first | exact wp_ret ⟨e, h, n, hk, st⟩ | ((repeat' split at hc) <;> simp at hc)
theorem Aw.exit {id : Nat} (hk : K (.exit id) e h n) : Aw P N k (.exit id) K e h n := by
  intro c hc w0 pass own0 A hA a w st
  cases c <;> simp only [comp] at hc
  case exit id' =>
    simp at hc; subst hc
    exact wp_exit ⟨e, h, n, hk, st⟩
  all_goals ((repeat' split at hc) <;> simp at hc)
theorem cOpers_get {ops : Array Oper} : ∀ (l : List Oper) (ios : List IOper), cOpers P ops l = some ios → l.length = ios.length ∧ ∀ (i : Nat) io, ios[i]? = some io → ∃ o, l[i]? = some o ∧ cOper P ops o = some io
  | [], ios, h => by simp [cOpers] at h; subst h; simp
  | o :: r, ios, h => by
    simp only [cOpers] at h
    split at h
    · rename_i x y hx hy
      cases h
      obtain ⟨h1, h2⟩ := cOpers_get r y hy
      refine ⟨by simp [h1], fun i io hi => ?_⟩
      cases i with
      | zero => simp at hi; subst hi; exact ⟨o, rfl, hx⟩
      | succ i => exact h2 i io (by simpa using hi)
    · cases h
theorem reg_parts {ops : Array Oper} {ios : List IOper} (h : cOpers P ops ops.toList = some ios) (hd : dstB N ios = true) :
    ios.length = ops.size ∧ ∀ (i : Nat) io, ios[i]? = some io → ∃ o, ops[i]? = some o ∧ cOper P ops o = some io ∧ ∀ t, io.dst = some t → t < N := by
  obtain ⟨h1, h2⟩ := cOpers_get _ _ h
  refine ⟨by simpa using h1.symm, fun i io hi => ?_⟩
  obtain ⟨o, g1, g2⟩ := h2 i io hi
  refine ⟨o, by simpa using g1, g2, fun t ht => ?_⟩
  have := (List.all_eq_true.1 hd) io (List.mem_of_getElem? hi)
  rw [ht] at this
  simpa using this
theorem Aw.reg (hC : CallOk P (CK Γ)) {ios : List IOper} (hk : regK Γ ios e h n (K .normal)) : Aw P N k (.reg ios) K e h n := by
  intro c hc w0 pass own0 A hA a w st
  cases c <;> simp only [comp] at hc
  case region id ops draw =>
    split at hc
    · rename_i ios' hio
      split at hc
      · rename_i hd
        cases draw
        · simp at hc
          subst hc
          obtain ⟨g1, g2⟩ := reg_parts hio hd
          refine wp_region (reg_sound (Γ := Γ) (N := N) hC (List.range ops.size) ios' e h n a w (K .normal) (by simp [g1]) ?_ st hk ?_)
          · intro i k io h1 h2
            have : k = i := by
              obtain ⟨h3, h4⟩ := List.getElem?_eq_some_iff.1 h1
              simp at h4; exact h4.symm
            subst this
            exact g2 k io h2
          · intro e' h' n' a' w' hk' st'
            exact ⟨e', h', n', hk', st'⟩
        · exfalso
          simp only [if_true] at hc
          (repeat' split at hc) <;> simp at hc
      · cases hc
    · cases hc
  all_goals ((repeat' split at hc) <;> simp at hc)
theorem Aw.drw (hm : P.follows .mixedOrders = true) (hC : CallOk P (CD Γ)) {ios : List IOper} {us : List (List Nat)} {b2 : Bool} (hk : drwK Γ ios e h n (K .normal)) : Aw P N k (.drw ios us true b2) K e h n := by
  intro c hc w0 pass own0 A hA a w st
  cases c <;> simp only [comp] at hc
  case region id ops draw =>
    split at hc
    · rename_i ios' hio
      split at hc
      · rename_i hd
        cases draw
        · simp at hc
        · simp only [if_true] at hc
          split at hc
          · simp only [Option.some.injEq, ICode.drw.injEq] at hc
            obtain ⟨rfl, _, hok, _⟩ := hc
            obtain ⟨g1, g2⟩ := reg_parts hio hd
            refine wp_region_any hm (drw_sound (Γ := Γ) (N := N) (K := K .normal) hC g2 g1 hok ?_ st.drawn hk)
            intro e' h' n' a' w' hk' st'
            exact ⟨e', h', n', hk', st'⟩
          · (repeat' split at hc) <;> simp at hc
      · cases hc
    · cases hc
  all_goals ((repeat' split at hc) <;> simp at hc)
theorem Aw.drs (hm : P.follows .mixedOrders = true) (hC : CallOk P (CD Γ)) (hCK : CallOk P (CK Γ)) {pre post : List IOper} (hk : drwK Γ pre e h n fun e' h' n' => regK Γ post e' h' n' (K .normal)) : Aw P N k (.drs pre post) K e h n := by
  intro c hc w0 pass own0 A hA a w st
  cases c <;> simp only [comp] at hc
  case region id ops draw =>
    split at hc
    · rename_i ios' hio
      split at hc
      · rename_i hd
        cases draw
        · simp at hc
        · simp only [if_true] at hc
          split at hc
          · simp at hc
          · split at hc
            · split at hc
              · rename_i hok
                simp only [Option.some.injEq, ICode.drs.injEq] at hc
                obtain ⟨rfl, rfl⟩ := hc
                obtain ⟨g1, g2⟩ := reg_parts hio hd
                refine wp_region_any hm (drs_sound (Γ := Γ) (N := N) (K := K .normal) hC hCK g2 g1 hok ?_ st.drawn hk)
                intro e' h' n' a' w' hk' st'
                exact ⟨e', h', n', hk', st'⟩
              · cases hc
            · cases hc
      · cases hc
    · cases hc
  all_goals ((repeat' split at hc) <;> simp at hc)
theorem Aw.seq {x y : ICode} (hk : Aw P N k x (thenK (Aw P N k y K) K) e h n) : Aw P N k (.seq x y) K e h n := by
  intro c hc w0 pass own0 A hA a w st
  cases c <;> simp only [comp] at hc
  case seq c1 c2 =>
    split at hc
    · rename_i x' y' h1 h2
      simp at hc
      obtain ⟨rfl, rfl⟩ := hc
      refine wp_seq (wp_mono (hk c1 h1 w0 pass own0 A hA a w st) ?_)
      rintro ex a' w' ⟨e', h', n', g1, g2⟩
      cases ex <;> simp only [thenK, Exit.then] at g1 ⊢ <;> first | exact ⟨e', h', n', g1, g2⟩ | exact g1 c2 h2 w0 pass own0 A hA a' w' g2
    · cases hc
  all_goals ((repeat' split at hc) <;> simp at hc)
theorem Aw.block {id : Nat} {x : ICode} (hk : Aw P N k x (blockK id K) e h n) : Aw P N k (.block id x) K e h n := by
  intro c hc w0 pass own0 A hA a w st
  cases c <;> simp only [comp] at hc
  case block id' c1 =>
    simp only [Option.map_eq_some_iff, ICode.block.injEq] at hc
    obtain ⟨x', h1, rfl, rfl⟩ := hc
    refine wp_block (wp_mono (hk c1 h1 w0 pass own0 A hA a w st) ?_)
    rintro ex a' w' ⟨e', h', n', g1, g2⟩
    cases ex <;> simp only [blockK, Exit.inBlock] at g1 ⊢ <;> first | exact ⟨e', h', n', g1, g2⟩ | skip
    split at g1
    · rename_i hj; rw [if_pos hj]; exact ⟨e', h', n', g1, g2⟩
    · rename_i hj; rw [if_neg hj]; exact ⟨e', h', n', g1, g2⟩
  all_goals ((repeat' split at hc) <;> simp at hc)
def condK (v : AV) (yes no : Prop) : Prop := match v with
  | .maybe c d => (c → yes) ∧ (d → no)
  | .bool c => (c = true → yes) ∧ (c = false → no)
  | _ => False
theorem Aw.cond {z : Opd} {x y : ICode} (hk : condK (z.ev e) (Aw P N k x K e h n) (Aw P N k y K e h n)) : Aw P N k (.cond z x y) K e h n := by
  intro c hc w0 pass own0 A hA a w st
  cases c <;> simp only [comp] at hc
  case cond cz c1 c2 =>
    split at hc
    · rename_i z' x' y' h0 h1 h2
      simp at hc
      obtain ⟨rfl, rfl, rfl⟩ := hc
      have hr : ∃ π, Rel w (ownOf own0 π) π n (z'.ev e) (a.eval cz) := by
        obtain ⟨_, _, π, _, s⟩ := st
        exact ⟨π, rel_opd s h0⟩
      obtain ⟨π, hr⟩ := hr
      cases hv : z'.ev e <;> rw [hv] at hk hr <;> simp only [condK] at hk
      · rename_i b
        generalize hu : a.eval cz = u at hr
        cases hr
        exact wp_cond_split hu (fun hb => hk.1 hb c1 h1 w0 pass own0 A hA a w st) (fun hb => hk.2 hb c2 h2 w0 pass own0 A hA a w st)
      · generalize hu : a.eval cz = u at hr
        cases hr with
        | maybe _ _ b g1 g2 => exact wp_cond_split hu (fun hb => hk.1 (g1 hb) c1 h1 w0 pass own0 A hA a w st) (fun hb => hk.2 (g2 hb) c2 h2 w0 pass own0 A hA a w st)
    · cases hc
  all_goals ((repeat' split at hc) <;> simp at hc)
theorem least_of {p : Nat → Prop} (h : ∃ m, p m) : ∃ m, p m ∧ ∀ k, p k → m ≤ k := by
  obtain ⟨m, hm⟩ := h
  induction m using Nat.strongRecOn with
  | _ m ih =>
    by_cases hc : ∃ k, k < m ∧ p k
    · obtain ⟨k, h1, h2⟩ := hc; exact ih k h1 h2
    · refine ⟨m, hm, fun k hk => ?_⟩
      by_cases hl : m ≤ k
      · exact hl
      · exact absurd ⟨k, by omega, hk⟩ hc
theorem Aw.loop {x : ICode} (I : Nat → Env → Heap → Nat → Prop) (m : Nat) (h0 : I m e h n)
    (round : ∀ m e h n, I m e h n → Aw P N k x (thenK (fun e' h' n' => ∃ m', m' < m ∧ I m' e' h' n') K) e h n) : Aw P N k (.loop x) K e h n := by
  intro c hc w0 pass own0 A hA a w st
  cases c <;> simp only [comp] at hc
  case loop c1 =>
    simp only [Option.map_eq_some_iff, ICode.loop.injEq] at hc
    obtain ⟨x', h1, rfl⟩ := hc
    classical
    let J : Nat → Act → World → Prop := fun m a w => ∃ e h n, I m e h n ∧ St w0 pass own0 A N e h n a w
    let μ : Act → World → Nat := fun a w => if hh : ∃ m, J m a w then Classical.choose (least_of hh) else 0
    refine wp_loop (I := fun a w => ∃ m, J m a w) μ ⟨m, e, h, n, h0, st⟩ ?_
    intro a w hI
    have hμ : μ a w = Classical.choose (least_of hI) := by simp only [μ]; rw [dif_pos hI]
    obtain ⟨e1, h1', n1, g1, g2⟩ := (Classical.choose_spec (least_of hI)).1
    refine wp_mono (round _ e1 h1' n1 g1 c1 h1 w0 pass own0 A hA a w g2) ?_
    rintro ex a' w' ⟨e', h', n', k1, k2⟩
    cases ex <;> simp only [thenK, Exit.then] at k1 ⊢ <;> first | exact ⟨e', h', n', k1, k2⟩ | skip
    obtain ⟨m', hm', hI'⟩ := k1
    have hJ : ∃ m, J m a' w' := ⟨m', e', h', n', hI', k2⟩
    refine ⟨hJ, ?_⟩
    rw [hμ]
    simp only [μ]
    rw [dif_pos hJ]
    exact Nat.lt_of_le_of_lt ((Classical.choose_spec (least_of hJ)).2 m' ⟨e', h', n', hI', k2⟩) hm'
  all_goals ((repeat' split at hc) <;> simp at hc)
end
def Heap.rest (h : Heap) (σ : List (Option Nat)) : Heap := fun id => if some id ∈ σ then Option.none else h id
mutual
def covV (σ : List (Option Nat)) (h : Heap) : AV → AV → Prop
  | _, .top => True
  | x, .ref j off len => match (σ[j]? : Option (Option Nat)) with
    | some (some i) => x = .ref i off len
    | some none => x = .snil ∧ off = 0 ∧ len = 0
    | none => False
  | x, .ptr j i off => match (σ[j]? : Option (Option Nat)) with
    | some (some k) => x = .ptr k i off
    | _ => False
  | x, .mp j => match (σ[j]? : Option (Option Nat)) with
    | some (some k) => x = .mp k
    | _ => False
  | x, .agg ys => match x with
    | .agg xs => covL σ h xs ys
    | _ => False
  | x, .tup ys => match x with
    | .tup xs => covL σ h xs ys
    | _ => False
  | x, .fn f ys => match x with
    | .fn g xs => f = g ∧ covL σ h xs ys
    | _ => False
  | x, .own z rows => x = .own z rows
  | _, .tmp _ => False
  | _, .maybe _ _ => False
  | x, y => x = y ∨ x.snap (h.rest σ) = y
def covL (σ : List (Option Nat)) (h : Heap) : List AV → List AV → Prop
  | [], [] => True
  | x :: xs, y :: ys => covV σ h x y ∧ covL σ h xs ys
  | _, _ => False
end
def covOs (σ : List (Option Nat)) (h : Heap) : List (Option Nat) → List (Option AObj) → Prop
  | [], [] => True
  | none :: s, none :: os => covOs σ h s os
  | none :: s, some (.arr _ rows) :: os => rows = [] ∧ covOs σ h s os
  | none :: s, some (.nst _ rows) :: os => rows = [] ∧ covOs σ h s os
  | some i :: s, some o' :: os => (match h i, o' with
    | some (.box row), .box row' => covL σ h row row'
    | some (.arr z rows), .arr z' rows' => z = z' ∧ rows = rows'
    | some (.nst z rows), .nst z' rows' => z = z' ∧ rows = rows'
    | some (.arx z rows), .arx z' rows' => z = z' ∧ rows.length = rows'.length ∧ ∀ (i : Nat) r r', rows[i]? = some r → rows'[i]? = some r' → covL σ h r r'
    | some (.map st es), .map st' es' => st = st' ∧ es = es'
    | some (.itr st cur left), .itr st' cur' left' => st = st' ∧ cur = cur' ∧ left = left'
    | _, _ => False) ∧ covOs σ h s os
  | _, _ => False
def nodupB : List (Option Nat) → Bool
  | [] => true
  | none :: r => nodupB r
  | some i :: r => !(r.contains (some i)) && nodupB r
def sinv : List (Option Nat) → Nat → Option Nat
  | [], _ => none
  | x :: r, i => if x = some i then some 0 else (sinv r i).map (· + 1)
theorem sinv_get : ∀ {σ : List (Option Nat)} {i j : Nat}, sinv σ i = some j → σ[j]? = some (some i)
  | [], i, j, h => by simp [sinv] at h
  | x :: r, i, j, h => by
    simp only [sinv] at h
    split at h
    · rename_i hx; cases h; simp [hx]
    · obtain ⟨k, hk, rfl⟩ := Option.map_eq_some_iff.1 h
      simpa using sinv_get hk
theorem sinv_mem : ∀ {σ : List (Option Nat)} {i : Nat}, some i ∈ σ → ∃ j, sinv σ i = some j
  | [], i, h => by cases h
  | x :: r, i, h => by
    simp only [sinv]
    split
    · exact ⟨0, rfl⟩
    · rename_i hx
      rcases List.mem_cons.1 h with h | h
      · exact absurd h.symm hx
      · obtain ⟨j, hj⟩ := sinv_mem h
        exact ⟨j + 1, by rw [hj]; rfl⟩
def covPl (σ : List (Option Nat)) (os : List (Option AObj)) (π : Pl) : Pl where
  at' j := match (σ[j]? : Option (Option Nat)) with
    | some (some i) => π i
    | some none => match os[j]? with
      | some (some (.arr z _)) => some ⟨none, z, 0⟩
      | some (some (.nst z _)) => some ⟨none, z, 0⟩
      | _ => none
    | none => none
  hid b := (π.hid b).bind fun k => (sinv σ k.1).map fun j => (j, k.2)
theorem covPl_at (σ : List (Option Nat)) (os : List (Option AObj)) (π : Pl) (j : Nat) : covPl σ os π j = match (σ[j]? : Option (Option Nat)) with
    | some (some i) => π i
    | some none => match os[j]? with
      | some (some (.arr z _)) => some ⟨none, z, 0⟩
      | some (some (.nst z _)) => some ⟨none, z, 0⟩
      | _ => none
    | none => none := rfl
theorem covPl_hid {σ : List (Option Nat)} {os : List (Option AObj)} {π : Pl} {b : Nat} {k : Nat × Nat × Nat} (h : (covPl σ os π).hid b = some k) : ∃ k0, π.hid b = some k0 ∧ sinv σ k0.1 = some k.1 ∧ k.2 = k0.2 := by
  have h : ((π.hid b).bind fun (k : Nat × Nat × Nat) => (sinv σ k.1).map fun j => (j, k.2)) = some k := h
  obtain ⟨k0, h1, h2⟩ := Option.bind_eq_some_iff.1 h
  obtain ⟨j, h3, h4⟩ := Option.map_eq_some_iff.1 h2
  subst h4
  exact ⟨k0, h1, h3, rfl⟩
theorem covPl_hid_mk {σ : List (Option Nat)} {os : List (Option AObj)} {π : Pl} {b i j c d : Nat} (h : π.hid b = some (i, c, d)) (hj : sinv σ i = some j) : (covPl σ os π).hid b = some (j, c, d) := by
  show ((π.hid b).bind fun (k : Nat × Nat × Nat) => (sinv σ k.1).map fun j => (j, k.2)) = _
  rw [h, Option.bind_some]
  dsimp only
  rw [hj]; rfl
theorem Rel.less {w : World} {own own' : Nat → Prop} {π π' : PlF} {n n' : Nat} (ho : ∀ b, own' b → own b) (hp : ∀ id p, π id = some p → (π' id = some p ∨ π' id = none) ∧ id < n) (hd : ∀ id, π id = none → id < n → π' id = none) (hn : n ≤ n') {x : AV} {v : Value} (h : Rel w own π n x v) :
    Rel w own' π' n' x v := by
  induction h with
  | top v => exact .top v
  | undef => exact .undef
  | int k n => exact .int k n
  | bool b => exact .bool b
  | str s => exact .str s
  | agg vs cs hl _ ih => exact .agg vs cs hl ih
  | tup vs cs hl _ ih => exact .tup vs cs hl ih
  | refLive id off len b cap p hpp hb h1 h2 =>
    rcases (hp id p hpp).1 with h | h
    · exact .refLive id off len b cap p h hb h1 h2
    · exact .refDead id off len _ _ h (Nat.lt_of_lt_of_le (hp id p hpp).2 hn)
  | refEnd id off o b p hpp hb =>
    rcases (hp id p hpp).1 with h | h
    · exact .refEnd id off o b p h hb
    · exact .refDead id off 0 _ _ h (Nat.lt_of_lt_of_le (hp id p hpp).2 hn)
  | refNil id a p hpp hb =>
    rcases (hp id p hpp).1 with h | h
    · exact .refNil id a p h hb
    · exact .refDead id 0 0 _ _ h (Nat.lt_of_lt_of_le (hp id p hpp).2 hn)
  | refDead id off len v cap hpp hlt => exact .refDead id off len v cap (hd id hpp hlt) (Nat.lt_of_lt_of_le hlt hn)
  | snil a => exact .snil a
  | valNil a cap => exact .valNil a cap
  | val rows g off cap s us hg hgs hc hm hs hf hu _ ih => exact .val rows g off cap s us (fun k => hg (ho _ k)) hgs hc hm hs hf hu ih
  | tmp rows g off cap s us hg hgs hc hm hs hu h1 _ ih => exact .tmp rows g off cap s us (fun k => hg (ho _ k)) hgs hc hm hs hu h1 ih
  | ptrLive id i off b p hpp hb =>
    rcases (hp id p hpp).1 with h | h
    · exact .ptrLive id i off b p h hb
    · exact .ptrDead id i off _ h (Nat.lt_of_lt_of_le (hp id p hpp).2 hn)
  | ptrDead id i off v hpp hlt => exact .ptrDead id i off v (hd id hpp hlt) (Nat.lt_of_lt_of_le hlt hn)
  | rptr row off g o us hg hgs hf hu _ ih => exact .rptr row off g o us (fun k => hg (ho _ k)) hgs hf hu ih
  | pnil => exact .pnil
  | fn f caps cs hl _ ih => exact .fn f caps cs hl ih
  | fnil => exact .fnil
  | maybe c d b h1 h2 => exact .maybe c d b h1 h2
  | mpLive id b p hpp hb =>
    rcases (hp id p hpp).1 with h | h
    · exact .mpLive id b p h hb
    · exact .mpDead id b h (Nat.lt_of_lt_of_le (hp id p hpp).2 hn)
  | mpDead id b hpp hlt => exact .mpDead id b (hd id hpp hlt) (Nat.lt_of_lt_of_le hlt hn)
theorem NstAt.less {w : World} {own own' : Nat → Prop} {π π' : Pl} {n n' id : Nat} (ho : ∀ b, own' b → own b) (hp : ∀ id p, π id = some p → (π' id = some p ∨ π' id = none) ∧ id < n) (hd : ∀ id, π id = none → id < n → π' id = none) (hn : n ≤ n')
    (hh : ∀ b i j, π.hid b = some (id, i, j) → π'.hid b = some (id, i, j)) {p : Place} {s : Nat} {rows : List (List AV)} (h : NstAt w own π n id p s rows) : NstAt w own' π' n' id p s rows := by
  obtain ⟨h0, h1, h2⟩ := h
  refine ⟨h0, h1, ?_⟩
  cases hb : p.blk with
  | none => simpa [hb] using h2
  | some b =>
    simp only [hb] at h2
    obtain ⟨cur, e, g1, g2, g3, g4, g5⟩ := h2
    refine ⟨cur, e, g1, g2, g3, g4, fun i j row x u a1 a2 a3 => ?_⟩
    have hc := g5 i j row x u a1 a2 a3
    by_cases hl : x.lone = true
    · exact (cellAt_lone hl).2 (((cellAt_lone hl).1 hc).less ho hp hd hn)
    · cases x <;> simp [AV.lone] at hl
      exact OwnAt.less ho (fun b hb => hh b i j hb) hc
theorem ObjAt.less {w : World} {own own' : Nat → Prop} {π π' : Pl} {n n' id : Nat} (ho : ∀ b, own' b → own b) (hp : ∀ id p, π id = some p → (π' id = some p ∨ π' id = none) ∧ id < n) (hd : ∀ id, π id = none → id < n → π' id = none) (hn : n ≤ n')
    (hh : ∀ b i j, π.hid b = some (id, i, j) → π'.hid b = some (id, i, j)) {p : Place} {o : AObj} (h : ObjAt w own π n id p o) : ObjAt w own' π' n' id p o := by
  cases o with
  | box row =>
    obtain ⟨b, cur, e, h1, h2, h3, h4⟩ := h
    exact ⟨b, cur, e, h1, h2, h3, fun j x u hx hu => (h4 j x u hx hu).less ho hp hd hn⟩
  | arr s rows => exact ArrAt.less ho h
  | nst s rows => exact ⟨NstAt.less ho hp hd hn hh h.1, h.2⟩
  | arx s rows => exact NstAt.less ho hp hd hn hh h
  | map st es => exact h
  | itr st cur left =>
    obtain ⟨b, g, ents, clock, seen, h1, h2, h3, h4⟩ := h
    exact ⟨b, g, ents, clock, seen, h1, h2, fun hg => h3 (ho g hg), h4⟩
section
variable {P : Program} {w0 : World} {pass own0 : Nat → Prop} {π : Pl} {e : Env} {h : Heap} {n : Nat} {a : Act} {w : World} {σ : List (Option Nat)} {os : List (Option AObj)}
theorem nodup_get : ∀ (σ : List (Option Nat)), nodupB σ = true → ∀ (i j k : Nat), σ[i]? = some (some k) → σ[j]? = some (some k) → i = j
  | [], _, i, j, k, h, _ => by simp at h
  | none :: r, hn, i, j, k, h1, h2 => by
    cases i with
    | zero => simp at h1
    | succ i => cases j with
      | zero => simp at h2
      | succ j => rw [nodup_get r (by simpa [nodupB] using hn) i j k (by simpa using h1) (by simpa using h2)]
  | some m :: r, hn, i, j, k, h1, h2 => by
    simp only [nodupB, Bool.and_eq_true, Bool.not_eq_true'] at hn
    have hm : some m ∉ r := by simpa using hn.1
    cases i with
    | zero =>
      simp at h1; subst h1
      cases j with
      | zero => rfl
      | succ j => exact absurd (List.mem_of_getElem? (by simpa using h2)) hm
    | succ i => cases j with
      | zero =>
        simp at h2; subst h2
        exact absurd (List.mem_of_getElem? (by simpa using h1)) hm
      | succ j => rw [nodup_get r hn.2 i j k (by simpa using h1) (by simpa using h2)]
theorem covOs_get : ∀ (s : List (Option Nat)) (os : List (Option AObj)), covOs σ h s os → s.length = os.length ∧ ∀ (j : Nat) o', os[j]? = some (some o') → (s[j]? = some none ∧ ∃ z, o' = .arr z [] ∨ o' = .nst z []) ∨
    (∃ i, s[j]? = some (some i) ∧ match h i, o' with
      | some (.box row), .box row' => covL σ h row row'
      | some (.arr z rows), .arr z' rows' => z = z' ∧ rows = rows'
      | some (.nst z rows), .nst z' rows' => z = z' ∧ rows = rows'
      | some (.arx z rows), .arx z' rows' => z = z' ∧ rows.length = rows'.length ∧ ∀ (i : Nat) r r', rows[i]? = some r → rows'[i]? = some r' → covL σ h r r'
      | some (.map st es), .map st' es' => st = st' ∧ es = es'
      | some (.itr st cur left), .itr st' cur' left' => st = st' ∧ cur = cur' ∧ left = left'
      | _, _ => False)
  | [], [], _ => by simp
  | none :: s, none :: os, hc => by
    simp only [covOs] at hc
    obtain ⟨h1, h2⟩ := covOs_get s os hc
    refine ⟨by simp [h1], fun j o' hj => ?_⟩
    cases j with
    | zero => simp at hj
    | succ j => simpa using h2 j o' (by simpa using hj)
  | none :: s, some (.arr z rows) :: os, hc => by
    simp only [covOs] at hc
    obtain ⟨h1, h2⟩ := covOs_get s os hc.2
    refine ⟨by simp [h1], fun j o' hj => ?_⟩
    cases j with
    | zero => simp at hj; subst hj; exact .inl ⟨rfl, z, .inl (by rw [hc.1])⟩
    | succ j => simpa using h2 j o' (by simpa using hj)
  | none :: s, some (.nst z rows) :: os, hc => by
    simp only [covOs] at hc
    obtain ⟨h1, h2⟩ := covOs_get s os hc.2
    refine ⟨by simp [h1], fun j o' hj => ?_⟩
    cases j with
    | zero => simp at hj; subst hj; exact .inl ⟨rfl, z, .inr (by rw [hc.1])⟩
    | succ j => simpa using h2 j o' (by simpa using hj)
  | some i :: s, some o :: os, hc => by
    simp only [covOs] at hc
    obtain ⟨h1, h2⟩ := covOs_get s os hc.2
    refine ⟨by simp [h1], fun j o' hj => ?_⟩
    cases j with
    | zero => simp at hj; subst hj; exact .inr ⟨i, rfl, hc.1⟩
    | succ j => simpa using h2 j o' (by simpa using hj)
  | [], _ :: _, hc => by simp [covOs] at hc
  | none :: _, [], hc => by simp [covOs] at hc
  | some _ :: _, [], hc => by simp [covOs] at hc
  | none :: _, some (.arx _ _) :: _, hc => by simp [covOs] at hc
  | none :: _, some (.box _) :: _, hc => by simp [covOs] at hc
  | none :: _, some (.map _ _) :: _, hc => by simp [covOs] at hc
  | none :: _, some (.itr _ _ _) :: _, hc => by simp [covOs] at hc
  | some _ :: _, none :: _, hc => by simp [covOs] at hc
theorem covOs_none : ∀ (s : List (Option Nat)) (os : List (Option AObj)), covOs σ h s os → ∀ (j : Nat), os[j]? = some none → ∀ i, s[j]? ≠ some (some i)
  | [], [], _, j, hj => by simp at hj
  | none :: s, none :: os, hc, j, hj => by
    intro i
    cases j with
    | zero => simp
    | succ j => simpa using covOs_none s os (by simpa only [covOs] using hc) j (by simpa using hj) i
  | none :: s, some (.arr z rows) :: os, hc, j, hj => by
    intro i
    simp only [covOs] at hc
    cases j with
    | zero => simp
    | succ j => simpa using covOs_none s os hc.2 j (by simpa using hj) i
  | none :: s, some (.nst z rows) :: os, hc, j, hj => by
    intro i
    simp only [covOs] at hc
    cases j with
    | zero => simp
    | succ j => simpa using covOs_none s os hc.2 j (by simpa using hj) i
  | some k :: s, some o :: os, hc, j, hj => by
    intro i
    simp only [covOs] at hc
    cases j with
    | zero => simp at hj
    | succ j => simpa using covOs_none s os hc.2 j (by simpa using hj) i
  | [], _ :: _, hc, _, _ => by simp [covOs] at hc
  | none :: _, [], hc, _, _ => by simp [covOs] at hc
  | some _ :: _, [], hc, _, _ => by simp [covOs] at hc
  | none :: _, some (.arx _ _) :: _, hc, _, _ => by simp [covOs] at hc
  | none :: _, some (.box _) :: _, hc, _, _ => by simp [covOs] at hc
  | none :: _, some (.map _ _) :: _, hc, _, _ => by simp [covOs] at hc
  | none :: _, some (.itr _ _ _) :: _, hc, _, _ => by simp [covOs] at hc
  | some _ :: _, none :: _, hc, _, _ => by simp [covOs] at hc
theorem covL_get : ∀ (xs ys : List AV), covL σ h xs ys → xs.length = ys.length ∧ ∀ (i : Nat) x y, xs[i]? = some x → ys[i]? = some y → covV σ h x y
  | [], [], _ => by simp
  | x :: xs, y :: ys, hc => by
    simp only [covL] at hc
    obtain ⟨h1, h2⟩ := covL_get xs ys hc.2
    refine ⟨by simp [h1], fun i x' y' hx hy => ?_⟩
    cases i with
    | zero => simp at hx hy; subst hx; subst hy; exact hc.1
    | succ i => exact h2 i x' y' (by simpa using hx) (by simpa using hy)
  | [], _ :: _, hc => by simp [covL] at hc
  | _ :: _, [], hc => by simp [covL] at hc
structure CovS (σ : List (Option Nat)) (h : Heap) (os : List (Option AObj)) : Prop where
  nd : nodupB σ = true
  obs : covOs σ h σ os
theorem covPl_some (hc : CovS σ h os) {j : Nat} {p : Place} (hp : covPl σ os π j = some p) : (∃ i, σ[j]? = some (some i) ∧ π i = some p) ∨ (σ[j]? = some none ∧ ∃ z, (os[j]? = some (some (.arr z [])) ∨ os[j]? = some (some (.nst z []))) ∧ p = ⟨none, z, 0⟩) := by
  rw [covPl_at] at hp
  split at hp
  · rename_i i hi; exact .inl ⟨i, hi, hp⟩
  · rename_i hi
    split at hp
    · rename_i z rows ho
      cases hp
      obtain ⟨_, h2⟩ := covOs_get _ _ hc.obs
      rcases h2 j _ ho with ⟨_, z', hz | hz⟩ | ⟨i, h3, _⟩
      · cases hz; exact .inr ⟨hi, z, .inl ho, rfl⟩
      · cases hz
      · rw [hi] at h3; cases h3
    · rename_i z rows ho
      cases hp
      obtain ⟨_, h2⟩ := covOs_get _ _ hc.obs
      rcases h2 j _ ho with ⟨_, z', hz | hz⟩ | ⟨i, h3, _⟩
      · cases hz
      · cases hz; exact .inr ⟨hi, z, .inr ho, rfl⟩
      · rw [hi] at h3; cases h3
    · cases hp
  · cases hp
theorem covPl_own (hc : CovS σ h os) {b : Nat} (hb : ownOf own0 (covPl σ os π) b) : ownOf own0 π b := by
  rcases hb with (hb | hb) | ⟨j, p, h1, h2⟩
  · exact .inl (.inl hb)
  · obtain ⟨k, hk⟩ := Option.isSome_iff_exists.1 hb
    obtain ⟨k0, hk0, _⟩ := covPl_hid hk
    exact .inl (.inr (by rw [hk0]; rfl))
  · rcases covPl_some hc h1 with ⟨i, _, h3⟩ | ⟨_, z, _, rfl⟩
    · exact .inr ⟨i, p, h3, h2⟩
    · cases h2
def restPl (σ : List (Option Nat)) (π : Pl) : Pl where
  at' id := if some id ∈ σ then none else π id
  hid b := match π.hid b with
    | some k => if some k.1 ∈ σ then none else some k
    | none => none
theorem restPl_at (σ : List (Option Nat)) (π : Pl) (id : Nat) : restPl σ π id = if some id ∈ σ then none else π id := rfl
theorem restPl_hid {σ : List (Option Nat)} {π : Pl} {b : Nat} {k : Nat × Nat × Nat} (h : (restPl σ π).hid b = some k) : π.hid b = some k ∧ some k.1 ∉ σ := by
  have h : (match π.hid b with | some k => if some k.1 ∈ σ then none else some k | none => none) = some k := h
  split at h
  · rename_i k' hk'
    split at h
    · cases h
    · rename_i hn; cases h; exact ⟨hk', hn⟩
  · cases h
theorem restPl_hid_mk {σ : List (Option Nat)} {π : Pl} {b : Nat} {k : Nat × Nat × Nat} (h : π.hid b = some k) (hn : some k.1 ∉ σ) : (restPl σ π).hid b = some k := by
  show (match π.hid b with | some k => if some k.1 ∈ σ then none else some k | none => none) = some k
  rw [h]
  dsimp only
  rw [if_neg hn]
theorem rest_own (hc : CovS σ h os) : ∀ b, ownOf (ownOf own0 (covPl σ os π)) (restPl σ π) b → ownOf own0 π b := by
  rintro b ((hb | hb) | ⟨id, p, h1, h2⟩)
  · exact covPl_own hc hb
  · obtain ⟨k, hk⟩ := Option.isSome_iff_exists.1 hb
    exact .inl (.inr (by rw [(restPl_hid hk).1]; rfl))
  · rw [restPl_at] at h1
    split at h1
    · cases h1
    · exact .inr ⟨id, p, h1, h2⟩
theorem hs_rest (s : HSim own0 π h n w) (hc : CovS σ h os) : HSim (ownOf own0 (covPl σ os π)) (restPl σ π) (h.rest σ) n w := by
  have ho := rest_own (own0 := own0) (π := π) hc
  refine ⟨fun id hid => ?_, fun id o hid => ?_, fun id id' p p' b h1 h2 => ?_, fun id p b h1 h2 => ?_, fun b hb => ?_, fun b k hb => ?_⟩
  · simp only [Heap.rest] at hid; rw [restPl_at]
    split
    · rfl
    · rename_i hni; rw [if_neg hni] at hid; exact s.dom id hid
  · simp only [Heap.rest] at hid
    split at hid
    · cases hid
    · rename_i hni
      obtain ⟨g1, p, g2, g3⟩ := s.obj id o hid
      refine ⟨g1, p, by rw [restPl_at, if_neg hni]; exact g2, g3.less ho (fun id' p' hp' => ?_) (fun id' hp' _ => ?_) (Nat.le_refl _) (fun b i j hb => restPl_hid_mk hb hni)⟩
      · rw [restPl_at]
        refine ⟨?_, (s.lt hp').1⟩
        split
        · exact .inr rfl
        · exact .inl hp'
      · rw [restPl_at]; split
        · rfl
        · exact hp'
  · rw [restPl_at] at h1 h2
    split at h1
    · cases h1
    · split at h2
      · cases h2
      · exact s.inj id id' p p' b h1 h2
  · rw [restPl_at] at h1
    split at h1
    · cases h1
    · rename_i hni
      rintro ((hb | hb) | ⟨j, p', h3, h4⟩)
      · exact s.sep id p b h1 h2 hb
      · obtain ⟨k, hk⟩ := Option.isSome_iff_exists.1 hb
        obtain ⟨k0, hk0, _⟩ := covPl_hid hk
        exact (s.hid b k0 hk0).2.2.2 id p h1 h2
      · rcases covPl_some hc h3 with ⟨i, h5, h6⟩ | ⟨_, z, _, rfl⟩
        · have := s.inj id i p p' b h1 h6 h2 h4
          subst this
          exact hni (List.mem_of_getElem? h5)
        · cases h4
  · exact own_lt s (covPl_own hc hb)
  · obtain ⟨hk, hn⟩ := restPl_hid hb
    obtain ⟨g1, g2, g3, g4⟩ := s.hid b k hk
    refine ⟨?_, g2, g3, fun id p hp hpb => ?_⟩
    · rintro ((h1 | h1) | ⟨j, p', h3, h4⟩)
      · exact g1 h1
      · obtain ⟨k', hk'⟩ := Option.isSome_iff_exists.1 h1
        obtain ⟨k0, hk0, hs0, _⟩ := covPl_hid hk'
        rw [hk] at hk0; cases hk0
        exact hn (List.mem_of_getElem? (sinv_get hs0))
      · rcases covPl_some hc h3 with ⟨i, h5, h6⟩ | ⟨_, z, _, rfl⟩
        · exact g4 i p' h6 h4
        · cases h4
    · rw [restPl_at] at hp
      split at hp
      · cases hp
      · exact g4 id p hp hpb
theorem rel_cov_simple (s : HSim own0 π h n w) (hc : CovS σ h os) {x y : AV} {v : Value} (hr : Rel w (ownOf own0 π) π n x v) (hy : x.snap (h.rest σ) = y) : Rel w (ownOf own0 (covPl σ os π)) (covPl σ os π) os.length y v := by
  subst hy
  have s2 := hs_rest s hc
  have hr2 : Rel w (ownOf (ownOf own0 (covPl σ os π)) (restPl σ π)) (restPl σ π) n x v := by
    refine hr.less (rest_own hc) (fun id p hp => ?_) (fun id hp _ => ?_) (Nat.le_refl _)
    · rw [restPl_at]
      refine ⟨?_, (s.lt hp).1⟩
      split
      · exact .inr rfl
      · exact .inl hp
    · rw [restPl_at]; split
      · rfl
      · exact hp
  exact (rel_snap s2 hr2).ofNo (fun b hb => hb)
theorem rel_cov_same (s : HSim own0 π h n w) (hc : CovS σ h os) {x : AV} {v : Value} (hr : Rel w (ownOf own0 π) π n x v) (hf : x.freeT = true) : Rel w (ownOf own0 (covPl σ os π)) (covPl σ os π) os.length x v :=
  hr.free (fun b _ hb => ⟨rfl, fun g => hb (covPl_own hc g)⟩) (Nat.le_refl _) hf
mutual
theorem rel_cov (s : HSim own0 π h n w) (hc : CovS σ h os) : ∀ (y x : AV) (v : Value), covV σ h x y → Rel w (ownOf own0 π) π n x v → Rel w (ownOf own0 (covPl σ os π)) (covPl σ os π) os.length y v
  | .top, x, v, _, _ => .top v
  | .ref j off len, x, v, hcv, hr => by
    simp only [covV] at hcv
    obtain ⟨hl, hob⟩ := covOs_get _ _ hc.obs
    split at hcv
    · rename_i i hi
      subst hcv
      have hjl : j < os.length := by rw [← hl]; exact (List.getElem?_eq_some_iff.1 hi).1
      have hpi : covPl σ os π j = π i := by simp [covPl, hi]
      cases hr with
      | refLive _ _ _ b cap p hp hb h1 h2 => exact .refLive _ _ _ b cap p (hpi.trans hp) hb h1 h2
      | refEnd _ _ o b p hp hb => exact .refEnd _ _ o b p (hpi.trans hp) hb
      | refNil _ a p hp hb => exact .refNil _ a p (hpi.trans hp) hb
      | refDead _ _ _ _ _ hp _ => exact .refDead _ _ _ _ _ (hpi.trans hp) hjl
    · rename_i hi
      obtain ⟨rfl, rfl, rfl⟩ := hcv
      cases hr
      have hjl : j < os.length := by rw [← hl]; exact (List.getElem?_eq_some_iff.1 hi).1
      cases hoj : os[j] with
      | none => exact .refDead j 0 0 _ _ (by simp [covPl, hi, List.getElem?_eq_getElem hjl, hoj]) hjl
      | some o =>
        rcases hob j o (by rw [List.getElem?_eq_getElem hjl, hoj]) with ⟨_, z, hz | hz⟩ | ⟨i, h3, _⟩
        · exact .refNil j _ ⟨none, z, 0⟩ (by simp [covPl, hi, List.getElem?_eq_getElem hjl, hoj, hz]) rfl
        · exact .refNil j _ ⟨none, z, 0⟩ (by simp [covPl, hi, List.getElem?_eq_getElem hjl, hoj, hz]) rfl
        · rw [hi] at h3; cases h3
    · exact hcv.elim
  | .ptr j i off, x, v, hcv, hr => by
    simp only [covV] at hcv
    obtain ⟨hl, hob⟩ := covOs_get _ _ hc.obs
    split at hcv
    · rename_i k hk
      subst hcv
      have hjl : j < os.length := by rw [← hl]; exact (List.getElem?_eq_some_iff.1 hk).1
      have hpi : covPl σ os π j = π k := by simp [covPl, hk]
      cases hr with
      | ptrLive _ _ _ b p hp hb => exact .ptrLive _ _ _ b p (hpi.trans hp) hb
      | ptrDead _ _ _ _ hp _ => exact .ptrDead _ _ _ _ (hpi.trans hp) hjl
    · exact hcv.elim
  | .mp j, x, v, hcv, hr => by
    simp only [covV] at hcv
    obtain ⟨hl, hob⟩ := covOs_get _ _ hc.obs
    split at hcv
    · rename_i k hk
      subst hcv
      have hjl : j < os.length := by rw [← hl]; exact (List.getElem?_eq_some_iff.1 hk).1
      have hpi : covPl σ os π j = π k := by simp [covPl, hk]
      cases hr with
      | mpLive _ b p hp hb => exact .mpLive _ b p (hpi.trans hp) hb
      | mpDead _ _ hp _ => exact .mpDead _ _ (hpi.trans hp) hjl
    · exact hcv.elim
  | .agg ys, x, v, hcv, hr => by
    cases x <;> simp only [covV] at hcv
    rename_i xs
    cases hr with
    | agg _ cs hl hh =>
      obtain ⟨g1, g2⟩ := rel_covs s hc ys xs cs.toList hcv (by simpa using hl) (fun i x u h1 h2 => hh i x u h1 (by simpa using h2))
      exact .agg ys cs (by simpa using g1) (fun i y u h1 h2 => g2 i y u h1 (by simpa using h2))
  | .tup ys, x, v, hcv, hr => by
    cases x <;> simp only [covV] at hcv
    rename_i xs
    cases hr with
    | tup _ cs hl hh =>
      obtain ⟨g1, g2⟩ := rel_covs s hc ys xs cs.toList hcv (by simpa using hl) (fun i x u h1 h2 => hh i x u h1 (by simpa using h2))
      exact .tup ys cs (by simpa using g1) (fun i y u h1 h2 => g2 i y u h1 (by simpa using h2))
  | .fn f ys, x, v, hcv, hr => by
    cases x <;> simp only [covV] at hcv
    obtain ⟨rfl, hcv⟩ := hcv
    rename_i xs
    cases hr with
    | fn _ _ cs hl hh =>
      obtain ⟨g1, g2⟩ := rel_covs s hc ys xs cs.toList hcv (by simpa using hl) (fun i x u h1 h2 => hh i x u h1 (by simpa using h2))
      exact .fn _ ys cs (by simpa using g1) (fun i y u h1 h2 => g2 i y u h1 (by simpa using h2))
  | .undef, x, v, hcv, hr => by
    simp only [covV] at hcv
    rcases hcv with rfl | h
    · cases hr; exact .undef
    · exact rel_cov_simple s hc hr h
  | .int k m, x, v, hcv, hr => by
    simp only [covV] at hcv
    rcases hcv with rfl | h
    · exact rel_cov_same s hc hr rfl
    · exact rel_cov_simple s hc hr h
  | .bool b, x, v, hcv, hr => by
    simp only [covV] at hcv
    rcases hcv with rfl | h
    · exact rel_cov_same s hc hr rfl
    · exact rel_cov_simple s hc hr h
  | .str b, x, v, hcv, hr => by
    simp only [covV] at hcv
    rcases hcv with rfl | h
    · exact rel_cov_same s hc hr rfl
    · exact rel_cov_simple s hc hr h
  | .snil, x, v, hcv, hr => by
    simp only [covV] at hcv
    rcases hcv with rfl | h
    · exact rel_cov_same s hc hr rfl
    · exact rel_cov_simple s hc hr h
  | .val rows, x, v, hcv, hr => by
    simp only [covV] at hcv
    rcases hcv with rfl | h
    · exact rel_cov_same s hc hr rfl
    · exact rel_cov_simple s hc hr h
  | .rptr row off, x, v, hcv, hr => by
    simp only [covV] at hcv
    rcases hcv with rfl | h
    · exact rel_cov_same s hc hr rfl
    · exact rel_cov_simple s hc hr h
  | .pnil, x, v, hcv, hr => by
    simp only [covV] at hcv
    rcases hcv with rfl | h
    · exact rel_cov_same s hc hr rfl
    · exact rel_cov_simple s hc hr h
  | .fnil, x, v, hcv, hr => by
    simp only [covV] at hcv
    rcases hcv with rfl | h
    · exact rel_cov_same s hc hr rfl
    · exact rel_cov_simple s hc hr h
  | .maybe _ _, x, v, hcv, hr => by
    simp [covV] at hcv
  | .own z rows, x, v, hcv, hr => by
    simp only [covV] at hcv
    subst hcv
    cases hr
  | .tmp rows, x, v, hcv, hr => by
    simp only [covV] at hcv
theorem rel_covs (s : HSim own0 π h n w) (hc : CovS σ h os) : ∀ (ys xs : List AV) (vs : List Value), covL σ h xs ys → vs.length = xs.length → (∀ (i : Nat) x u, xs[i]? = some x → vs[i]? = some u → Rel w (ownOf own0 π) π n x u) →
    vs.length = ys.length ∧ ∀ (i : Nat) y u, ys[i]? = some y → vs[i]? = some u → Rel w (ownOf own0 (covPl σ os π)) (covPl σ os π) os.length y u
  | [], [], vs, _, hl, _ => ⟨by simpa using hl, by simp⟩
  | y :: ys, x :: xs, [], _, hl, _ => by simp at hl
  | y :: ys, x :: xs, v :: vs, hcv, hl, hh => by
    simp only [covL] at hcv
    obtain ⟨g1, g2⟩ := rel_covs s hc ys xs vs hcv.2 (by simpa using hl) (fun i x u h1 h2 => hh (i + 1) x u (by simpa using h1) (by simpa using h2))
    refine ⟨by simp [g1], fun i y' u h1 h2 => ?_⟩
    cases i with
    | zero =>
      simp at h1 h2
      subst h1; subst h2
      exact rel_cov s hc y x v hcv.1 (hh 0 x v rfl rfl)
    | succ i => exact g2 i y' u (by simpa using h1) (by simpa using h2)
  | [], _ :: _, _, hcv, _, _ => by simp [covL] at hcv
  | _ :: _, [], _, hcv, _, _ => by simp [covL] at hcv
end
theorem nst_cov_same (s : HSim own0 π h n w) (hc : CovS σ h os) {i j : Nat} (hj : σ[j]? = some (some i)) (hinv : sinv σ i = some j) {p : Place} {z : Nat} {rows rows' : List (List AV)} (hl : rows.length = rows'.length)
    (hrow : ∀ (a : Nat) r r', rows[a]? = some r → rows'[a]? = some r' → r.length = r'.length ∧ ∀ (b : Nat) x y u, r[b]? = some x → r'[b]? = some y → CellAt w (ownOf own0 π) π n i a b x u → CellAt w (ownOf own0 (covPl σ os π)) (covPl σ os π) os.length j a b y u)
    (g : NstAt w (ownOf own0 π) π n i p z rows) : NstAt w (ownOf own0 (covPl σ os π)) (covPl σ os π) os.length j p z rows' := by
  obtain ⟨k1, k2, k3⟩ := g
  have get : ∀ (a : Nat) r', rows'[a]? = some r' → ∃ r, rows[a]? = some r := fun a r' hr => ⟨rows[a]'(by have := (List.getElem?_eq_some_iff.1 hr).1; omega), List.getElem?_eq_getElem _⟩
  refine ⟨k1, fun a r' hr => ?_, ?_⟩
  · obtain ⟨r, hr0⟩ := get a r' hr
    rw [← (hrow a r r' hr0 hr).1]; exact k2 a r hr0
  cases hb : p.blk with
  | none =>
    simp only [hb] at k3
    subst k3
    exact List.eq_nil_of_length_eq_zero (by simpa using hl.symm)
  | some b =>
    simp only [hb] at k3 ⊢
    obtain ⟨cur, e', c1, c2, c3, c4, c5⟩ := k3
    refine ⟨cur, e', c1, c2, by omega, c4, fun a b' r' y u a1 a2 a3 => ?_⟩
    obtain ⟨r, hr0⟩ := get a r' a1
    obtain ⟨m1, m2⟩ := hrow a r r' hr0 a1
    have hb' : b' < r.length := by rw [m1]; exact (List.getElem?_eq_some_iff.1 a2).1
    exact m2 b' r[b'] y u (List.getElem?_eq_getElem hb') a2 (c5 a b' r _ u hr0 (List.getElem?_eq_getElem hb') a3)
theorem cell_cov_own (hc : CovS σ h os) {i j a b z : Nat} {rs : List (List AV)} {u : Value} (hinv : sinv σ i = some j) (g : CellAt w (ownOf own0 π) π n i a b (.own z rs) u) : CellAt w (ownOf own0 (covPl σ os π)) (covPl σ os π) os.length j a b (.own z rs) u :=
  OwnAt.less (fun b hb => covPl_own hc hb) (fun b hb => covPl_hid_mk hb hinv) g
theorem hs_cov (s : HSim own0 π h n w) (hc : CovS σ h os) : HSim own0 (covPl σ os π) (objsO os) os.length w := by
  obtain ⟨hl, hob⟩ := covOs_get _ _ hc.obs
  refine ⟨fun j hj => ?_, fun j o' hj => ?_, fun j j' p p' b h1 h2 h3 h4 => ?_, fun j p b h1 h2 => ?_, s.old, fun b k hb => ?_⟩
  · cases hp : covPl σ os π j with
    | none => rfl
    | some p =>
      exfalso
      rcases covPl_some hc hp with ⟨i, h1, h2⟩ | ⟨h1, z, h2, _⟩
      · have hlt := (List.getElem?_eq_some_iff.1 h1).1
        have : os[j]? = some none := by
          rw [List.getElem?_eq_getElem (by omega)]
          simp only [objsO, List.getElem?_eq_getElem (show j < os.length by omega), Option.join_some] at hj
          rw [hj]
        exact covOs_none _ _ hc.obs j this i h1
      · rcases h2 with h2 | h2 <;> simp [objsO, h2] at hj
  · have hj' : os[j]? = some (some o') := by
      simp only [objsO, Option.join_eq_some_iff] at hj
      exact hj
    have hjl := (List.getElem?_eq_some_iff.1 hj').1
    refine ⟨hjl, ?_⟩
    rcases hob j o' hj' with ⟨h1, z, rfl | rfl⟩ | ⟨i, h1, h2⟩
    · exact ⟨⟨none, z, 0⟩, by rw [covPl_at]; simp [h1, hj'], rfl, by simp, rfl⟩
    · exact ⟨⟨none, z, 0⟩, by rw [covPl_at]; simp [h1, hj'], ⟨rfl, by simp, rfl⟩, by simp⟩
    · have hinv : sinv σ i = some j := by
        obtain ⟨j', hj2⟩ := sinv_mem (List.mem_of_getElem? h1)
        have := nodup_get σ hc.nd j' j i (sinv_get hj2) h1
        subst this; exact hj2
      cases hhi : h i with
      | none => rw [hhi] at h2; exact h2.elim
      | some o =>
        obtain ⟨g1, p, g2, g3⟩ := s.obj i o hhi
        refine ⟨p, by rw [covPl_at, h1]; exact g2, ?_⟩
        rw [hhi] at h2
        cases o with
        | box row =>
          cases o' with
          | arr => exact h2.elim
          | nst => exact h2.elim
          | arx => exact h2.elim
          | map => exact h2.elim
          | itr => exact h2.elim
          | box row' =>
            obtain ⟨b, cur, e', k1, k2, k3, k4⟩ := g3
            obtain ⟨m1, m2⟩ := rel_covs (n := n) s hc row' row cur.toList h2 (by simpa using k3) (fun i x u a1 a2 => k4 i x u a1 (by simpa using a2))
            exact ⟨b, cur, e', k1, k2, by simpa using m1, fun j x u a1 a2 => m2 j x u a1 (by simpa using a2)⟩
        | arr z rows =>
          cases o' with
          | box => exact h2.elim
          | nst => exact h2.elim
          | arx => exact h2.elim
          | map => exact h2.elim
          | itr => exact h2.elim
          | arr z' rows' =>
            obtain ⟨rfl, rfl⟩ := h2
            exact ArrAt.less (fun b hb => covPl_own hc hb) g3
        | nst z rows =>
          cases o' with
          | box => exact h2.elim
          | arr => exact h2.elim
          | arx => exact h2.elim
          | map => exact h2.elim
          | itr => exact h2.elim
          | nst z' rows' =>
            obtain ⟨rfl, rfl⟩ := h2
            refine ⟨nst_cov_same s hc h1 hinv rfl (fun a r r' hr hr' => ?_) g3.1, g3.2⟩
            rw [hr] at hr'; cases hr'
            refine ⟨rfl, fun b x y u hx hy hcell => ?_⟩
            rw [hx] at hy; cases hy
            have hseal := g3.2 a r hr x (List.mem_of_getElem? hx)
            by_cases hlo : x.lone = true
            · refine (cellAt_lone hlo).2 (rel_cov_same s hc ((cellAt_lone hlo).1 hcell) ?_)
              cases x <;> first | (exact freeT_of_free hseal) | (simp [AV.lone] at hlo)
            · cases x <;> simp [AV.lone] at hlo
              exact cell_cov_own hc hinv hcell
        | arx z rows =>
          cases o' with
          | box => exact h2.elim
          | arr => exact h2.elim
          | nst => exact h2.elim
          | map => exact h2.elim
          | itr => exact h2.elim
          | arx z' rows' =>
            obtain ⟨rfl, hll, hcells⟩ := h2
            refine nst_cov_same s hc h1 hinv hll (fun a r r' hr hr' => ?_) g3
            obtain ⟨m1, m2⟩ := covL_get r r' (hcells a r r' hr hr')
            refine ⟨m1, fun b x y u hx hy hcell => ?_⟩
            have hcv := m2 b x y hx hy
            by_cases hlo : x.lone = true
            · have hr := rel_cov s hc y x u hcv ((cellAt_lone hlo).1 hcell)
              refine (cellAt_lone ?_).2 hr
              cases y <;> first | rfl | cases hr
            · cases x <;> simp [AV.lone] at hlo
              rename_i q rs
              have hy : y = .top ∨ y = .own q rs := by
                cases y <;> simp only [covV] at hcv <;> first | (exact .inl rfl) | (exact .inr (by rw [hcv])) | skip
                all_goals first | (simp_all; done) | (rcases hcv with hcv | hcv <;> simp [AV.snap, AV.snap1] at hcv) | skip
                all_goals (split at hcv <;> simp at hcv)
              rcases hy with rfl | rfl
              · exact (cellAt_lone rfl).2 (.top u)
              · exact cell_cov_own hc hinv hcell
        | map st es =>
          cases o' <;> first | exact h2.elim | skip
          obtain ⟨rfl, rfl⟩ := h2
          exact g3
        | itr st cur left =>
          cases o' <;> first | exact h2.elim | skip
          obtain ⟨rfl, rfl, rfl⟩ := h2
          obtain ⟨b, g, ents, clock, seen, k1, k2, k3, k4⟩ := g3
          exact ⟨b, g, ents, clock, seen, k1, k2, fun hg => k3 (covPl_own hc hg), k4⟩
  · rcases covPl_some hc h1 with ⟨i, k1, k2⟩ | ⟨_, z, _, rfl⟩
    · rcases covPl_some hc h2 with ⟨i', m1, m2⟩ | ⟨_, z, _, rfl⟩
      · have := s.inj i i' p p' b k2 m2 h3 h4
        subst this
        exact nodup_get σ hc.nd j j' i k1 m1
      · cases h4
    · cases h3
  · rcases covPl_some hc h1 with ⟨i, k1, k2⟩ | ⟨_, z, _, rfl⟩
    · exact s.sep i p b k2 h2
    · cases h2
  · obtain ⟨k0, hk0, hs0, _⟩ := covPl_hid hb
    obtain ⟨g1, g2, g3, g4⟩ := s.hid b k0 hk0
    refine ⟨g1, g2, ?_, fun id p hp hpb => ?_⟩
    · rw [← hl]; exact (List.getElem?_eq_some_iff.1 (sinv_get hs0)).1
    · rcases covPl_some hc hp with ⟨i, k1, k2⟩ | ⟨_, z, _, rfl⟩
      · exact g4 i p k2 hpb
      · cases hpb
theorem fr_cov (f : Fr w0 pass π w) (hc : CovS σ h os) : Fr w0 pass (covPl σ os π) w := by
  refine ⟨f.os, f.tape, f.output, f.size, f.kept, fun j p b h1 h2 => ?_, fun b k hb => ?_⟩
  · rcases covPl_some hc h1 with ⟨i, k1, k2⟩ | ⟨_, z, _, rfl⟩
    · exact f.blk i p b k2 h2
    · cases h2
  · obtain ⟨k0, hk0, _⟩ := covPl_hid hb
    exact f.hid b k0 hk0
def ancB (σ : List (Option Nat)) (os : List (Option AObj)) (k : Nat) : Bool := decide (k ≤ σ.length) && (List.range k).all fun j => match (σ[j]? : Option (Option Nat)), os[j]? with
  | some (some i), _ => i == j
  | some none, some none => true
  | _, _ => false
theorem anc_cov {A : Anch} (hc : CovS σ h os) (hk : ancB σ os A.k = true) (hA : A.at π n) : A.at (covPl σ os π) os.length := by
  obtain ⟨hl, _⟩ := covOs_get _ _ hc.obs
  simp only [ancB, Bool.and_eq_true, decide_eq_true_eq, List.all_eq_true, List.mem_range] at hk
  refine ⟨by omega, fun id hid => ?_⟩
  have := hk.2 id hid
  split at this
  · rename_i i o hs
    simp at this; subst this
    rw [covPl_at, hs]
    exact hA.2 _ hid
  · rename_i hs ho
    exact .inr (by rw [covPl_at, hs, ho])
  · cases this
theorem St.cov {N : Nat} {A : Anch} (st : St w0 pass own0 A N e h n a w) (hc : CovS σ h os) (hk : ancB σ os A.k = true) {e' : Env} (he : ∀ t, covV σ h (e t) (e' t)) : St w0 pass own0 A N e' (objsO os) os.length a w := by
  obtain ⟨h1, h2, π, hA, s⟩ := st
  exact ⟨h1, h2, covPl σ os π, anc_cov hc hk hA, hs_cov s.hs hc, fr_cov s.fr hc, fun t => rel_cov s.hs hc (e' t) (e t) _ (he t) (s.env t)⟩
theorem Aw.cov {N k : Nat} {ic : ICode} {K : XK} (hc : CovS σ h os) (hk : ancB σ os k = true) {e' : Env} (he : ∀ t, covV σ h (e t) (e' t)) (hw : Aw P N k ic K e' (objsO os) os.length) : Aw P N k ic K e h n :=
  fun c hcc w0 pass own0 A hA a w st => hw c hcc w0 pass own0 A hA a w (st.cov hc (by rw [hA]; exact hk) he)
end
end Go.Proofs.YthanhknkoikbfaaDoor.Av
namespace Go.Proofs.YthanhknkoikbfaaDoor.Av
open Go
inductive RRes where
  | t (t : Nat)
  | c1 (t : Nat)
  | cn (t s : Nat)
def cRes (P : Program) : ResultVar → Option RRes
  | .tmp t => some (.t t)
  | .cell a ty => match cAgg P ty, cSize P ty with
    | some true, some (s + 1) => some (.cn a (s + 1))
    | some false, some _ => some (.c1 a)
    | _, _ => none
def rowOfP (h : Heap) : AV → Option (List AV × Nat)
  | .ptr id i off => match h id with
    | some o => match o.plain with
      | true => (o.rowAt i).map fun r => (r, off)
      | false => none
    | none => none
  | .rptr row off => some (row, off)
  | _ => none
def resK (e : Env) (h : Heap) : List RRes → (List AV → Prop) → Prop
  | [], K => K []
  | .t t :: r, K => resK e h r fun vs => K (e t :: vs)
  | .c1 a :: r, K => match rowOfP h (e a) with
    | some (row, off) => (match row[off]? with
      | some c => resK e h r fun vs => K (c :: vs)
      | none => False)
    | none => False
  | .cn a s :: r, K => match rowOfP h (e a) with
    | some (row, off) => off + s ≤ row.length ∧ resK e h r fun vs => K (.agg (sub row off s) :: vs)
    | none => False
def tupOf : List AV → AV
  | [v] => v
  | vs => .tup vs
def envA (xs : List AV) : Env := fun t => xs.getD t .top
mutual
def AV.nov : AV → Bool
  | .val rows => rows.isEmpty
  | .rptr _ _ => false
  | .agg vs => AV.novs vs
  | .tup vs => AV.novs vs
  | .fn _ vs => AV.novs vs
  | .own _ rows => AV.novss rows
  | .tmp _ => false
  | _ => true
def AV.novs : List AV → Bool
  | [] => true
  | v :: r => v.nov && AV.novs r
def AV.novss : List (List AV) → Bool
  | [] => true
  | v :: r => AV.novs v && AV.novss r
end
def AObj.nov : AObj → Bool
  | .box row => AV.novs row
  | .arr _ rows => rows.all AV.novs
  | .nst _ rows => rows.all AV.novs
  | .arx _ rows => rows.all AV.novs
  | .map _ _ => true
  | .itr _ _ _ => false
theorem novss_get : ∀ (vs : List (List AV)), AV.novss vs = true → ∀ (i : Nat) x, vs[i]? = some x → AV.novs x = true
  | [], _, i, x, h => by simp at h
  | v :: r, hn, i, x, h => by
    simp only [AV.novss, Bool.and_eq_true] at hn
    cases i with
    | zero => simp at h; subst h; exact hn.1
    | succ i => exact novss_get r hn.2 i x (by simpa using h)
theorem novs_get : ∀ (vs : List AV), AV.novs vs = true → ∀ (i : Nat) x, vs[i]? = some x → x.nov = true
  | [], _, i, x, h => by simp at h
  | v :: r, hn, i, x, h => by
    simp only [AV.novs, Bool.and_eq_true] at hn
    cases i with
    | zero => simp at h; subst h; exact hn.1
    | succ i => exact novs_get r hn.2 i x (by simpa using h)
theorem Rel.nov {w : World} {own own' : Nat → Prop} {π : PlF} {n : Nat} {x : AV} {v : Value} (h : Rel w own π n x v) (hn : x.nov = true) : Rel w own' π n x v := by
  induction h with
  | top v => exact .top v
  | undef => exact .undef
  | int k n => exact .int k n
  | bool b => exact .bool b
  | str s => exact .str s
  | agg vs cs hl _ ih => exact .agg vs cs hl (fun i x u h1 h2 => ih i x u h1 h2 (novs_get vs (by simpa [AV.nov] using hn) i x h1))
  | tup vs cs hl _ ih => exact .tup vs cs hl (fun i x u h1 h2 => ih i x u h1 h2 (novs_get vs (by simpa [AV.nov] using hn) i x h1))
  | refLive id off len b cap p hpp hb h1 h2 => exact .refLive id off len b cap p hpp hb h1 h2
  | refEnd id off o b p hpp hb => exact .refEnd id off o b p hpp hb
  | refNil id a p hpp hb => exact .refNil id a p hpp hb
  | refDead id off len v cap hpp hlt => exact .refDead id off len v cap hpp hlt
  | snil a => exact .snil a
  | valNil a cap => exact .valNil a cap
  | val rows g off cap s us hg hgs hc hm hs hf hu _ ih =>
    have : rows = [] := by simpa [AV.nov] using hn
    subst this
    exact .valNil _ _
  | tmp => simp [AV.nov] at hn
  | ptrLive id i off b p hpp hb => exact .ptrLive id i off b p hpp hb
  | ptrDead id i off v hpp hlt => exact .ptrDead id i off v hpp hlt
  | rptr row off g o us hg hgs hf hu _ ih => simp [AV.nov] at hn
  | pnil => exact .pnil
  | fn f caps cs hl _ ih => exact .fn f caps cs hl (fun i x u h1 h2 => ih i x u h1 h2 (novs_get caps (by simpa [AV.nov] using hn) i x h1))
  | fnil => exact .fnil
  | maybe c d b h1 h2 => exact .maybe c d b h1 h2
  | mpLive id b p hpp hb => exact .mpLive id b p hpp hb
  | mpDead id b hpp hlt => exact .mpDead id b hpp hlt
theorem ArrAt.nov {w : World} {own own' : Nat → Prop} {π : PlF} {n : Nat} {p : Place} {s : Nat} {rows : List (List AV)} (h : ArrAt w own π n p s rows) (hn : ∀ (i : Nat) row, rows[i]? = some row → AV.novs row = true) : ArrAt w own' π n p s rows := by
  obtain ⟨h0, h1, h2⟩ := h
  refine ⟨h0, h1, ?_⟩
  cases hb : p.blk with
  | none => simpa [hb] using h2
  | some b =>
    simp only [hb] at h2
    obtain ⟨cur, e, g1, g2, g3, g4, g5⟩ := h2
    exact ⟨cur, e, g1, g2, g3, g4, fun i j row x u a1 a2 a3 => (g5 i j row x u a1 a2 a3).nov (novs_get row (hn i row a1) j x a2)⟩
theorem NstAt.nov {w : World} {own own' : Nat → Prop} {π : Pl} {n id : Nat} {p : Place} {s : Nat} {rows : List (List AV)} (h : NstAt w own π n id p s rows) (hn : ∀ (i : Nat) row, rows[i]? = some row → AV.novs row = true) : NstAt w own' π n id p s rows := by
  obtain ⟨h0, h1, h2⟩ := h
  refine ⟨h0, h1, ?_⟩
  cases hb : p.blk with
  | none => simpa [hb] using h2
  | some b =>
    simp only [hb] at h2
    obtain ⟨cur, e, g1, g2, g3, g4, g5⟩ := h2
    refine ⟨cur, e, g1, g2, g3, g4, fun i j row x u a1 a2 a3 => ?_⟩
    have hc := g5 i j row x u a1 a2 a3
    have hx := novs_get row (hn i row a1) j x a2
    by_cases hl : x.lone = true
    · exact (cellAt_lone hl).2 (((cellAt_lone hl).1 hc).nov hx)
    · cases x <;> simp [AV.lone] at hl
      rcases hc with hc | ⟨q, b', cap, k1, k2, k3, k4, k5, k6⟩
      · exact .inl hc
      · exact .inr ⟨q, b', cap, k1, k2, k3, k4, k5, k6.nov (fun i row hr => novss_get _ (by simpa [AV.nov] using hx) i row hr)⟩
theorem ObjAt.nov {w : World} {own own' : Nat → Prop} {π : Pl} {n id : Nat} {p : Place} {o : AObj} (h : ObjAt w own π n id p o) (hn : o.nov = true) : ObjAt w own' π n id p o := by
  have key : ∀ rows : List (List AV), rows.all AV.novs = true → ∀ (i : Nat) row, rows[i]? = some row → AV.novs row = true := fun rows h i row hr => (List.all_eq_true.1 h) row (List.mem_of_getElem? hr)
  cases o with
  | box row =>
    obtain ⟨b, cur, e, h1, h2, h3, h4⟩ := h
    exact ⟨b, cur, e, h1, h2, h3, fun j x u hx hu => (h4 j x u hx hu).nov (novs_get row hn j x hx)⟩
  | arr s rows => exact ArrAt.nov h (key rows hn)
  | nst s rows => exact ⟨NstAt.nov h.1 (key rows hn), h.2⟩
  | arx s rows => exact NstAt.nov h (key rows hn)
  | map st es => exact h
  | itr st cur left => cases hn
section
variable {P : Program} {w0 : World} {pass own0 : Nat → Prop} {π : Pl} {e : Env} {h : Heap} {n : Nat} {a : Act} {w : World}
theorem run_loadVar_of {t : TypeId} {ad : Addr} {u : Value} {w : World} (h : (Instr.loadAt t (.pointer (some ad))).run P w = .ok u w) : (do loadVar t (← asAddr (.pointer (some ad)))).run P w = .ok u w := by
  simpa [Instr.loadAt, Instr.sureAddr, asAddr] using h
theorem rowOfP_spec {h : Heap} {x : AV} {row : List AV} {off : Nat} (hw : rowOfP h x = some (row, off)) : rowOf h x = some (row, off) ∧ ∀ c, okRow h x c := by
  cases x <;> simp only [rowOfP] at hw <;> first | cases hw | skip
  · rename_i id i off'
    simp only [rowOf, okRow]
    split at hw
    · rename_i o ho
      split at hw
      · rename_i hp
        simp only [ho]
        exact ⟨hw, fun c => .inl hp⟩
      · cases hw
    · cases hw
  · exact ⟨rfl, fun c => trivial⟩
theorem val_ld1 (s : Sim w0 pass own0 π e h n a w) {t : TypeId} (ha : cAgg P t = some false) {x c : AV} {v : Value} (hr : Rel w (ownOf own0 π) π n x v) {row : List AV} {off : Nat} (hw : rowOfP h x = some (row, off))
    (hc : row[off]? = some c) : ∃ u, (do loadVar t (← asAddr v)).run P w = .ok u w ∧ Rel w (ownOf own0 π) π n c u := by
  obtain ⟨hw, hok⟩ := rowOfP_spec hw
  obtain ⟨ad, rfl, hsp, hcells⟩ := cells_of_ptr s.hs hr hw (List.getElem?_eq_some_iff.1 hc).1
  obtain ⟨u, h1, h2⟩ := hcells 0 c (by simpa using hc) (hok _)
  refine ⟨u, run_loadVar_of (run_ld1 ha (u := u) ?_), h2⟩
  rw [← h1]; cases ad; simp at hsp; subst hsp; rfl
theorem val_ldn (s : Sim w0 pass own0 π e h n a w) {t : TypeId} (ha : cAgg P t = some true) {z : Nat} (hz : cSize P t = some z) {x : AV} {v : Value} (hr : Rel w (ownOf own0 π) π n x v) {row : List AV} {off : Nat} (hw : rowOfP h x = some (row, off))
    (hc : off + z ≤ row.length) (hz0 : 0 < z) : ∃ u, (do loadVar t (← asAddr v)).run P w = .ok u w ∧ Rel w (ownOf own0 π) π n (.agg (sub row off z)) u := by
  obtain ⟨hw, hok⟩ := rowOfP_spec hw
  obtain ⟨ad, rfl, hsp, hcells⟩ := cells_of_ptr s.hs hr hw (by omega)
  have hex : ∀ j : Nat, ∃ u, j < z → w.cell? ⟨ad.block, ad.off + j, none⟩ = some u ∧ ∀ c, row[off + j]? = some c → Rel w (ownOf own0 π) π n c u := by
    intro j
    by_cases hj : j < z
    · obtain ⟨u, h1, h2⟩ := hcells j row[off + j] (List.getElem?_eq_getElem (by omega)) (hok _)
      exact ⟨u, fun _ => ⟨h1, fun c hc => by rw [List.getElem?_eq_getElem (by omega)] at hc; cases hc; exact h2⟩⟩
    · exact ⟨Go.undef, fun h => absurd h hj⟩
  obtain ⟨f, hf⟩ := Classical.axiomOfChoice hex
  have hcs : ∀ (j : Nat) u, ((List.range z).map f)[j]? = some u → j < z ∧ u = f j := by
    intro j u hj
    simp only [List.getElem?_map, Option.map_eq_some_iff] at hj
    obtain ⟨k, hk, rfl⟩ := hj
    obtain ⟨h1, h2⟩ := List.getElem?_eq_some_iff.1 hk
    simp at h1 h2; subst h2; exact ⟨h1, rfl⟩
  refine ⟨_, run_loadVar_of (run_ldn ha hz (cs := (List.range z).map f) (by simp) ?_), ?_⟩
  · intro j u hj
    obtain ⟨h1, rfl⟩ := hcs j u hj
    rw [add_eq ad hsp]
    exact (hf j h1).1
  · refine .agg _ _ (by simp [length_sub _ _ _ hc]) (fun j c u h1 h2 => ?_)
    obtain ⟨h3, rfl⟩ := hcs j u (by simpa using h2)
    rw [getElem?_sub, if_pos h3] at h1
    exact (hf j h3).2 c h1
def resSem (tmps : Array Value) : ResultVar → Sem Value
  | .tmp t => pure (tmps.getD t undef)
  | .cell a t => do loadVar t (← asAddr (tmps.getD a undef))
theorem rels_cons {own : Nat → Prop} {N : Nat} {x : AV} {v : Value} {xs : List AV} {vs : List Value} (h : Rel w own π N x v) (hs : Rels w own π N xs vs) : Rels w own π N (x :: xs) (v :: vs) := by
  refine ⟨by simp [hs.1], fun i y u h1 h2 => ?_⟩
  cases i with
  | zero => simp at h1 h2; subst h1; subst h2; exact h
  | succ i => exact hs.2 i y u (by simpa using h1) (by simpa using h2)
theorem res_sound (s : Sim w0 pass own0 π e h n a w) : ∀ (rvs : List ResultVar) (rs : List RRes) (K : List AV → Prop), rvs.map (cRes P) = rs.map some → resK e h rs K →
    ∃ vs us, (rvs.mapM (resSem a.tmps)).run P w = .ok us w ∧ Rels w (ownOf own0 π) π n vs us ∧ K vs
  | [], rs, K, hm, hk => by
    have : rs = [] := by cases rs <;> simp_all
    subst this
    exact ⟨[], [], by simp, ⟨rfl, by simp⟩, hk⟩
  | rv :: rvs, [], K, hm, _ => by simp at hm
  | rv :: rvs, r :: rs, K, hm, hk => by
    simp only [List.map_cons, List.cons.injEq] at hm
    obtain ⟨h1, h2⟩ := hm
    have fin : ∀ (c : AV) u, (resSem a.tmps rv).run P w = .ok u w → Rel w (ownOf own0 π) π n c u → resK e h rs (fun vs => K (c :: vs)) →
        ∃ vs us, ((rv :: rvs).mapM (resSem a.tmps)).run P w = .ok us w ∧ Rels w (ownOf own0 π) π n vs us ∧ K vs := by
      intro c u hu hr hk
      obtain ⟨vs, us, g1, g2, g3⟩ := res_sound s rvs rs _ h2 hk
      exact ⟨c :: vs, u :: us, by simp [List.mapM_cons, hu, g1], rels_cons hr g2, g3⟩
    cases rv with
    | tmp t =>
      simp only [cRes, Option.some.injEq] at h1
      subst h1
      exact fin _ _ (by simp [resSem]) (s.env t) hk
    | cell ad ty =>
      simp only [cRes] at h1
      split at h1
      · rename_i z hag hsz
        cases h1
        simp only [resK] at hk
        split at hk
        · rename_i row off hro
          obtain ⟨u, g1, g2⟩ := val_ldn s hag hsz (s.env ad) hro hk.1 (by omega)
          exact fin _ u g1 g2 hk.2
        · exact hk.elim
      · rename_i z hag hsz
        cases h1
        simp only [resK] at hk
        split at hk
        · rename_i row off hro
          split at hk
          · rename_i c hc
            obtain ⟨u, g1, g2⟩ := val_ld1 s hag (s.env ad) hro hc
            exact fin _ u g1 g2 hk
          · exact hk.elim
        · exact hk.elim
      · cases h1
theorem results_sound (s : Sim w0 pass own0 π e h n a w) {fn : Func} {rs : List RRes} (hm : fn.results.toList.map (cRes P) = rs.map some) {K : List AV → Prop} (hk : resK e h rs K) :
    ∃ vs v, (results fn a.tmps).run P w = .ok v w ∧ Rel w (ownOf own0 π) π n (tupOf vs) v ∧ K vs := by
  obtain ⟨vs, us, g1, g2, g3⟩ := res_sound s _ rs K hm hk
  refine ⟨vs, if h : us.toArray.size = 1 then us.toArray[0] else .tuple us.toArray, ?_, ?_, g3⟩
  · have e1 : results fn a.tmps = (do
        let vs ← fn.results.mapM (resSem a.tmps)
        pure (if h : vs.size = 1 then vs[0] else .tuple vs)) := by
      unfold results
      congr 2
    rw [e1, Array.mapM_eq_mapM_toList]
    simp [g1]
  · match vs, us, g2 with
    | [x], [u], g2 => simpa [tupOf] using g2.2 0 x u rfl rfl
    | [], [], g2 => simpa [tupOf] using Rel.tup [] #[] rfl (by simp)
    | x :: y :: r, u :: v :: q, g2 =>
      simp only [tupOf]
      rw [dif_neg (by simp)]
      exact .tup _ _ (by simpa using g2.1.symm) (fun i x u h1 h2 => g2.2 i x u h1 (by simpa using h2))
    | [], _ :: _, g2 => exact absurd g2.1 (by simp)
    | _ :: _, [], g2 => exact absurd g2.1 (by simp)
    | [_], _ :: _ :: _, g2 => exact absurd g2.1 (by simp)
    | _ :: _ :: _, [_], g2 => exact absurd g2.1 (by simp)
structure Body (P : Program) (f : Nat) (N : Nat) (ic : ICode) (rs : List RRes) : Prop where
  body : ∃ fn c, P.funcs[f]? = some fn ∧ fn.body = some c ∧ fn.ntmps = N ∧ comp P N c = some ic ∧ fn.results.toList.map (cRes P) = rs.map some ∧ fn.name ≠ "runtime.NumGoroutine"
theorem Body.has {f N : Nat} {ic : ICode} {rs : List RRes} (b : Body P f N ic rs) : HasBody P f := by
  obtain ⟨fn, c, h1, h2, _, _, _, h3⟩ := b.body
  exact ⟨fn, h1, by simp [h2], h3⟩
theorem body_mk {f N : Nat} {ic : ICode} {rs : List RRes} {fn : Func} (hf : P.funcs[f]? = some fn)
    (h : (fn.body.map fun c => (comp P fn.ntmps c, fn.ntmps, fn.results.toList.map (cRes P))) = some (some ic, N, rs.map some)) (hn : fn.name ≠ "runtime.NumGoroutine") : Body P f N ic rs := by
  obtain ⟨c, h1, h2⟩ := Option.map_eq_some_iff.1 h
  simp only [Prod.mk.injEq] at h2
  obtain ⟨h3, rfl, h5⟩ := h2
  exact ⟨fn, c, hf, h1, rfl, h3, h5, hn⟩
theorem envA_rel {own : Nat → Prop} {N : Nat} {xs : List AV} {vs : Array Value} (hr : Rels w own π N xs vs.toList) (m : Nat) (t : Nat) : Rel w own π N (envA xs t) ((vs ++ Array.replicate m undef).getD t Go.undef) := by
  simp only [envA, List.getD_eq_getElem?_getD]
  cases hx : xs[t]? with
  | none => exact .top _
  | some x =>
    have hlt := (List.getElem?_eq_some_iff.1 hx).1
    have hlv : t < vs.size := by have := hr.1; simp at this; omega
    have : (vs ++ Array.replicate m undef).getD t Go.undef = vs[t] := by
      simp [Array.getD_eq_getD_getElem?, Array.getElem?_append, hlv]
    rw [this]
    exact hr.2 t x _ hx (by simp [hlv])
theorem pure_of_aw {f N : Nat} {ic : ICode} {rs : List RRes} (b : Body P f N ic rs) {R : List AV → AV → List AObj → Prop}
    (H : ∀ xs r objs, R xs r objs → (∃ w own vs, Rels w own noPl 0 xs vs) → xs.length ≤ N ∧
      Aw P N 0 ic (fun x e h n => (x = .ret ∨ x = .normal) ∧ resK e h rs fun vs => ∃ σ, CovS σ h (objs.map some) ∧ covV σ h (tupOf vs) r ∧ r.nov = true ∧ objs.all AObj.nov = true) (envA xs) Heap.none 0) : PureSound P f R := by
  intro w own xs vs r objs hr hR
  obtain ⟨fn, c, hf, hb, rfl, hc, hres, _⟩ := b.body
  obtain ⟨hlen, haw⟩ := H xs r objs hR ⟨w, own, _, hr⟩
  have hvs : vs.size ≤ fn.ntmps := by have := hr.1; simp at this; omega
  let own1 : Nat → Prop := fun b => own b ∧ b < w.heap.size
  have st : St w (fun _ => False) own1 ⟨0, noPl⟩ fn.ntmps (envA xs) Heap.none 0 { tmps := vs ++ Array.replicate (fn.ntmps - vs.size) undef, defers := [] } w := by
    refine ⟨rfl, by simp; omega, noPl, ⟨Nat.le_refl _, fun id hid => by simp at hid⟩, ⟨⟨fun _ _ => rfl, fun id o ho => by simp [Heap.none] at ho, fun _ _ _ _ _ h => by simp [noPl] at h, fun _ _ _ h => by simp [noPl] at h, fun b hb => hb.2, fun _ _ h => by simp [noPl] at h⟩,
      ⟨rfl, ⟨rfl, .inl (Nat.le_refl _)⟩, rfl, Nat.le_refl _, fun _ _ _ => rfl, fun _ _ _ h => by simp [noPl] at h, fun _ _ h => by simp [noPl] at h⟩, fun t => ?_⟩⟩
    refine envA_rel (w := w) (π := noPl) ⟨hr.1, fun i x v h1 h2 => (hr.2 i x v h1 h2).ofNo ?_⟩ _ t
    rintro b ((hb | hb) | ⟨_, _, h, _⟩)
    · exact hb.1
    · simp [noPl] at hb
    · simp [noPl] at h
  have hwp := haw c hc w (fun _ => False) own1 ⟨0, noPl⟩ rfl _ w st
  refine calls_of_wp hf hb (wp_mono hwp ?_)
  rintro x a' w' ⟨e', h', n', ⟨hx, hk⟩, hdef, _, π', _, s⟩
  obtain ⟨ws, v, g1, g2, σ, hcov, hcv, hn1, hn2⟩ := results_sound s hres hk
  have hs := hs_cov s.hs hcov
  have hf := fr_cov s.fr hcov
  have hrel := rel_cov s.hs hcov r _ v hcv g2
  have hO : objsO (objs.map some) = objsH objs := by
    funext j
    simp only [objsO, objsH, List.getElem?_map]
    cases objs[j]? <;> rfl
  have hnew : ∀ id p b, covPl σ (objs.map some) π' id = some p → p.blk = some b → w.heap.size ≤ b := fun id p b h1 h2 => (hf.blk id p b h1 h2).resolve_right (fun h => h)
  have fin : a'.defers = [] ∧ ∃ v, (results fn a'.tmps).run P w' = .ok v w' ∧ ∃ v1 π1, Ending.returned v = .returned v1 ∧ Ext w w' (fun _ => False) ∧ HSim (· < w.heap.size) π1 (objsH objs) objs.length w' ∧ Rel w' (ownOf (· < w.heap.size) π1) π1 objs.length r v1 := by
    refine ⟨hdef, v, g1, v, covPl σ (objs.map some) π', rfl, ⟨s.fr.os, s.fr.tape, s.fr.output, s.fr.size, s.fr.kept⟩, ?_, ?_⟩
    · rw [hO, List.length_map] at hs
      refine ⟨hs.dom, fun id o ho => ?_, hs.inj, fun id p b h1 h2 hlt => ?_, fun b hb => Nat.lt_of_lt_of_le hb s.fr.size, fun b k hb => ?_⟩
      · obtain ⟨k1, p, k2, k3⟩ := hs.obj id o ho
        exact ⟨k1, p, k2, k3.nov ((List.all_eq_true.1 hn2) o (List.mem_of_getElem? ho))⟩
      · have := hnew id p b h1 h2; omega
      · obtain ⟨g1, g2, g3, g4⟩ := hs.hid b k hb
        exact ⟨fun hlt => by have := (hf.hid b k hb).resolve_right (fun h => h); omega, g2, g3, g4⟩
    · rw [List.length_map] at hrel
      exact hrel.nov hn1
  rcases hx with rfl | rfl <;> exact fin
theorem gen_of_aw {f N k : Nat} {ic : ICode} {rs : List RRes} (b : Body P f N ic rs) {G : GFun}
    (H : ∀ xs objs Q, objs.length = k → G xs objs Q → (∃ w own0 π vs, HSim own0 π (objsH objs) k w ∧ Rels w (ownOf own0 π) π k xs vs) → xs.length ≤ N ∧
      Aw P N k ic (fun x e h n => (x = .ret ∨ x = .normal) ∧ resK e h rs fun vs => ∃ σ r out, CovS σ h out ∧ covV σ h (tupOf vs) r ∧ ancB σ out k = true ∧ Q r out) (envA xs) (objsH objs) k) : GenSound P f k G := by
  intro w own0 π objs xs vs Q hl hs0 hr hG
  obtain ⟨fn, c, hf, hb, rfl, hc, hres, _⟩ := b.body
  obtain ⟨hlen, haw⟩ := H xs objs Q hl hG ⟨w, own0, π, _, hs0, hr⟩
  have hvs : vs.size ≤ fn.ntmps := by have := hr.1; simp at this; omega
  let pass : Nat → Prop := π.has
  have st : St w pass own0 ⟨k, π⟩ fn.ntmps (envA xs) (objsH objs) k { tmps := vs ++ Array.replicate (fn.ntmps - vs.size) undef, defers := [] } w := by
    refine ⟨rfl, by simp; omega, π, ⟨Nat.le_refl _, fun id _ => .inl rfl⟩, ⟨hs0, ⟨rfl, ⟨rfl, .inl (Nat.le_refl _)⟩, rfl, Nat.le_refl _, fun _ _ _ => rfl, fun id p b h1 h2 => .inr (.inl ⟨id, p, h1, h2⟩), fun b k hb => .inr (.inr (by rw [hb]; rfl))⟩, fun t => envA_rel hr _ t⟩⟩
  have hwp := haw c hc w pass own0 ⟨k, π⟩ rfl _ w st
  refine calls_of_wp hf hb (wp_mono hwp ?_)
  rintro x a' w' ⟨e', h', n', ⟨hx, hk⟩, hdef, _, π', hA, s⟩
  obtain ⟨ws, v, g1, g2, σ, r, out, hcov, hcv, hanc, hQ⟩ := results_sound s hres hk
  have hs := hs_cov s.hs hcov
  have hfr := fr_cov s.fr hcov
  have hrel := rel_cov s.hs hcov r _ v hcv g2
  have hA2 := anc_cov (A := ⟨k, π⟩) hcov hanc hA
  have fin : a'.defers = [] ∧ ∃ v, (results fn a'.tmps).run P w' = .ok v w' ∧ ∃ v1 π1 r out, Ending.returned v = .returned v1 ∧ Q r out ∧ k ≤ out.length ∧ Ext w w' π.has ∧
      (∀ id p, π id = some p → π1 id = some p ∨ π1 id = none) ∧ (∀ b, π1.has b → w.heap.size ≤ b ∨ π.has b) ∧
      HSim own0 π1 (objsO out) out.length w' ∧ Rel w' (ownOf own0 π1) π1 out.length r v1 := by
    refine ⟨hdef, v, g1, v, covPl σ out π', r, out, rfl, hQ, hA2.1, ⟨s.fr.os, s.fr.tape, s.fr.output, s.fr.size, s.fr.kept⟩, fun id p hp => ?_, fun b hb => ?_, hs, hrel⟩
    · rcases hA2.2 id (hs0.lt hp).1 with h1 | h1
      · exact .inl (by rw [h1]; exact hp)
      · exact .inr h1
    · rcases hb with ⟨id, p, h1, h2⟩ | hb
      · exact hfr.blk id p b h1 h2
      · obtain ⟨k, hk⟩ := Option.isSome_iff_exists.1 hb
        exact hfr.hid b k hk
  rcases hx with rfl | rfl <;> exact fin
end
end Go.Proofs.YthanhknkoikbfaaDoor.Av
namespace Go.Proofs.YthanhknkoikbfaaDoor.Av
open Go
structure Lp (P : Program) (N k : Nat) (b : ICode) (K : XK) (e : Env) (h : Heap) (n : Nat) : Prop where
  aw : Aw P N k (.loop b) K e h n
def vc (P : Program) (N k : Nat) (Γ : Ctx) : ICode → XK → Env → Heap → Nat → Prop
  | .skip, K, e, h, n => K .normal e h n
  | .reg ios, K, e, h, n => regK Γ ios e h n (K .normal)
  | .drw ios _ true _, K, e, h, n => drwK Γ ios e h n (K .normal)
  | .drw _ _ false _, _, _, _, _ => False
  | .drs pre post, K, e, h, n => drwK Γ pre e h n fun e h n => regK Γ post e h n (K .normal)
  | .seq a b, K, e, h, n => vc P N k Γ a (thenK (vc P N k Γ b K) K) e h n
  | .cond z x y, K, e, h, n => condK (z.ev e) (vc P N k Γ x K e h n) (vc P N k Γ y K e h n)
  | .block id b, K, e, h, n => vc P N k Γ b (blockK id K) e h n
  | .loop b, K, e, h, n => Lp P N k b K e h n
  | .exit id, K, e, h, n => K (.exit id) e h n
  | .ret, K, e, h, n => K .ret e h n
structure Rely (P : Program) (Γ : Ctx) : Prop where
  mixed : P.follows .mixedOrders = true
  sound : CtxSound P Γ
  body : CtxBody P Γ
theorem condK_mono {v : AV} {A B A' B' : Prop} (ha : A → A') (hb : B → B') (h : condK v A B) : condK v A' B' := by
  unfold condK at *
  split at h
  · exact ⟨fun c => ha (h.1 c), fun c => hb (h.2 c)⟩
  · exact ⟨fun c => ha (h.1 c), fun c => hb (h.2 c)⟩
  · exact h.elim
theorem vc_sound {P : Program} {N k : Nat} {Γ : Ctx} (hR : Rely P Γ) : ∀ (ic : ICode) (K : XK) (e : Env) (h : Heap) (n : Nat), vc P N k Γ ic K e h n → Aw P N k ic K e h n
  | .skip, K, e, h, n, hv => Aw.skip hv
  | .reg ios, K, e, h, n, hv => Aw.reg (Γ := Γ) (callOk_K hR.sound hR.body) hv
  | .drw ios us true b2, K, e, h, n, hv => Aw.drw (Γ := Γ) hR.mixed (callOk_D hR.sound hR.body) hv
  | .drw _ _ false _, _, _, _, _, hv => hv.elim
  | .drs pre post, K, e, h, n, hv => Aw.drs (Γ := Γ) hR.mixed (callOk_D hR.sound hR.body) (callOk_K hR.sound hR.body) hv
  | .seq a b, K, e, h, n, hv => Aw.seq (Aw.mono (fun x e' h' n' g => by
      cases x <;> simp only [thenK] at g ⊢ <;> first | exact g | exact vc_sound hR b K e' h' n' g) (vc_sound hR a _ e h n hv))
  | .cond z x y, K, e, h, n, hv => Aw.cond (condK_mono (vc_sound hR x K e h n) (vc_sound hR y K e h n) hv)
  | .block id b, K, e, h, n, hv => Aw.block (vc_sound hR b _ e h n hv)
  | .loop b, K, e, h, n, hv => hv.aw
  | .exit id, K, e, h, n, hv => Aw.exit hv
  | .ret, K, e, h, n, hv => Aw.ret hv
def okcB (h : Heap) : AV → Bool
  | .ref id _ _ => (h id).isSome
  | .ptr id _ _ => (h id).isSome
  | .mp id => (h id).isSome
  | .int .. => true
  | .bool _ => true
  | .str _ => true
  | .snil => true
  | .val _ => true
  | .rptr .. => true
  | .pnil => true
  | .fn .. => true
  | .fnil => true
  | _ => false
def okcs (h : Heap) : List AV → Bool
  | [] => true
  | c :: r => okcB h c && okcs h r
def okvs (h : Heap) : List AV → Bool
  | [] => true
  | v :: r => okcs h v.cells && okvs h r
def frees : List AV → Bool
  | [] => true
  | c :: r => c.free && frees r
def lensB (s : Nat) : List (List AV) → Bool
  | [] => true
  | v :: r => v.length == s && lensB s r
theorem lens_all {s : Nat} : ∀ {l : List (List AV)}, lensB s l = true → ∀ r ∈ l, r.length = s
  | [], _, c, hc => by simp at hc
  | x :: r, ho, c, hc => by
    simp only [lensB, Bool.and_eq_true, beq_iff_eq] at ho
    rcases List.mem_cons.1 hc with rfl | hc
    · exact ho.1
    · exact lens_all ho.2 c hc
def bslB (s : Nat) : List AV → Bool
  | [] => true
  | v :: r => v.cells.length == s && frees v.cells && bslB s r
def clenB (s : Nat) : List AV → Bool
  | [] => true
  | v :: r => v.cells.length == s && clenB s r
def chk (b : Bool) (K : Prop) : Prop := match b with
  | true => K
  | false => False
theorem chk_eq (b : Bool) (K : Prop) : chk b K = (b = true ∧ K) := by cases b <;> simp [chk]
theorem okcs_iff {h : Heap} : ∀ {l : List AV}, okcs h l = true ↔ ∀ c ∈ l, c.okc h
  | [] => by simp [okcs]
  | x :: r => by
    have : okcB h x = true ↔ x.okc h := by cases x <;> simp [okcB, AV.okc]
    simp [okcs, this, okcs_iff (l := r)]
theorem okvs_iff {h : Heap} : ∀ {l : List AV}, okvs h l = true ↔ ∀ v ∈ l, ∀ c ∈ v.cells, c.okc h
  | [] => by simp [okvs]
  | x :: r => by simp [okvs, okcs_iff, okvs_iff (l := r)]
theorem frees_iff : ∀ {l : List AV}, frees l = true ↔ ∀ c ∈ l, c.free = true
  | [] => by simp [frees]
  | x :: r => by simp [frees, frees_iff (l := r)]
theorem bsl_iff {s : Nat} : ∀ {l : List AV}, bslB s l = true ↔ ∀ v ∈ l, v.cells.length = s ∧ ∀ c ∈ v.cells, c.free = true
  | [] => by simp [bslB]
  | x :: r => by simp [bslB, frees_iff, bsl_iff (l := r)]
theorem clen_iff {s : Nat} : ∀ {l : List AV}, clenB s l = true ↔ ∀ v ∈ l, v.cells.length = s
  | [] => by simp [clenB]
  | x :: r => by simp [clenB, clen_iff (l := r)]
def hasLen {α : Type} : List α → Nat → Bool
  | [], 0 => true
  | _ :: r, n + 1 => hasLen r n
  | _, _ => false
theorem hasLen_iff {α : Type} : ∀ {l : List α} {n : Nat}, hasLen l n = true ↔ l.length = n
  | [], 0 => by simp [hasLen]
  | [], n + 1 => by simp [hasLen]
  | _ :: r, 0 => by simp [hasLen]
  | _ :: r, n + 1 => by simp [hasLen, hasLen_iff (l := r)]
def atLeast {α : Type} : List α → Nat → Bool
  | _, 0 => true
  | _ :: r, n + 1 => atLeast r n
  | _, _ => false
theorem atLeast_iff {α : Type} : ∀ {l : List α} {n : Nat}, atLeast l n = true ↔ n ≤ l.length
  | [], 0 => by simp [atLeast]
  | [], n + 1 => by simp [atLeast]
  | _ :: r, 0 => by simp [atLeast]
  | _ :: r, n + 1 => by simp [atLeast, atLeast_iff (l := r)]
def allLive (h : Heap) : List Nat → Bool
  | [] => true
  | id :: r => (h id).isSome && allLive h r
theorem allLive_iff {h : Heap} : ∀ {l : List Nat}, allLive h l = true ↔ ∀ id ∈ l, (h id).isSome = true
  | [] => by simp [allLive]
  | x :: r => by simp [allLive, allLive_iff (l := r)]
def envL : List (Nat × AV) → Env
  | [], _ => .top
  | (t, v) :: r, s => if s = t then v else envL r s
def covAll (σ : List (Option Nat)) (h : Heap) (e : Env) : List (Nat × AV) → Prop
  | [] => True
  | (t, v) :: r => covV σ h (e t) v ∧ covAll σ h e r
theorem covAll_env {σ : List (Option Nat)} {h : Heap} {e : Env} : ∀ (l : List (Nat × AV)), covAll σ h e l → ∀ t, covV σ h (e t) (envL l t)
  | [], _, t => by simp [envL, covV]
  | (t', v) :: r, hc, t => by
    simp only [envL]
    split
    · rename_i ht; subst ht; exact hc.1
    · exact covAll_env r hc.2 t
structure CovN (σ : List (Option Nat)) (e : Env) (h : Heap) (l : List (Nat × AV)) (os : List (Option AObj)) (k : Nat) : Prop where
  nd : nodupB σ = true
  anc : ancB σ os k = true
  obs : covOs σ h σ os
  env : covAll σ h e l
section
variable {P : Program} {N k : Nat} {K : XK} {e : Env} {h : Heap} {n : Nat}
theorem Aw.covN {ic : ICode} {σ : List (Option Nat)} {l : List (Nat × AV)} {os : List (Option AObj)} (hc : CovN σ e h l os k) (hw : Aw P N k ic K (envL l) (objsO os) os.length) : Aw P N k ic K e h n :=
  Aw.cov ⟨hc.nd, hc.obs⟩ hc.anc (covAll_env l hc.env) hw
theorem Aw.post {ic : ICode} {K' : XK} (hk : ∀ x e h n, K x e h n → K' x e h n ∨ ∃ σ l os, CovN σ e h l os k ∧ K' x (envL l) (objsO os) os.length) (hw : Aw P N k ic K e h n) : Aw P N k ic K' e h n := by
  intro c hc w0 pass own0 A hA a w st
  refine wp_mono (hw c hc w0 pass own0 A hA a w st) ?_
  rintro x a' w' ⟨e', h', n', g1, g2⟩
  rcases hk x e' h' n' g1 with g | ⟨σ, l, os, g3, g4⟩
  · exact ⟨e', h', n', g, g2⟩
  · exact ⟨_, _, _, g4, g2.cov ⟨g3.nd, g3.obs⟩ (by rw [hA]; exact g3.anc) (covAll_env l g3.env)⟩
theorem Lp.intro {α : Type} (inv : α → Prop) (m : α → Nat) (L : α → List (Nat × AV)) (O : α → List (Option AObj)) {x : ICode} (h0 : ∃ a, inv a ∧ ∃ σ, CovN σ e h (L a) (O a) k)
    (round : ∀ a, inv a → Aw P N k x (thenK (fun e' h' _ => ∃ a', inv a' ∧ m a' < m a ∧ ∃ σ, CovN σ e' h' (L a') (O a') k) K) (envL (L a)) (objsO (O a)) (O a).length) : Lp P N k x K e h n := by
  obtain ⟨a, ha, σ, hc⟩ := h0
  refine ⟨Aw.covN hc (Aw.loop (fun j e h n => ∃ a, inv a ∧ m a = j ∧ e = envL (L a) ∧ h = objsO (O a) ∧ n = (O a).length) (m a) ⟨a, ha, rfl, rfl, rfl, rfl⟩ ?_)⟩
  rintro j e h n ⟨a, ha, rfl, rfl, rfl, rfl⟩
  refine Aw.post ?_ (round a ha)
  intro x e' h' n' g
  cases x <;> simp only [thenK] at g ⊢ <;> first | exact .inl g | skip
  obtain ⟨a', h1, h2, σ', h3⟩ := g
  exact .inr ⟨σ', L a', O a', h3, m a', h2, a', h1, rfl, rfl, rfl, rfl⟩
theorem Aw.split {Γ : Ctx} (hR : Rely P Γ) {x y : List IOper} (hk : regK Γ x e h n (fun e' h' _ => ∃ σ l os, CovN σ e' h' l os k ∧ regK Γ y (envL l) (objsO os) os.length (K .normal))) : Aw P N k (.reg (x ++ y)) K e h n := by
  intro c hc w0 pass own0 A hA a w st
  cases c <;> simp only [comp] at hc
  case region id ops draw =>
    split at hc
    · rename_i ios' hio
      split at hc
      · rename_i hd
        cases draw
        · simp at hc
          subst hc
          obtain ⟨g1, g2⟩ := reg_parts hio hd
          have hC := callOk_K hR.sound hR.body
          have hget : ∀ (i j : Nat) k, (List.range' i j)[k]? = some (i + k) ∨ (List.range' i j)[k]? = none := by
            intro i j k
            by_cases hkj : k < j
            · exact .inl (by simp [hkj])
            · exact .inr (by simp; omega)
          have hrange : List.range ops.size = List.range' 0 x.length ++ List.range' x.length y.length := by
            rw [List.range_eq_range', ← g1, List.length_append]
            have := List.range'_append_1 (s := 0) (m := x.length) (n := y.length)
            rw [Nat.zero_add] at this
            exact this.symm
          refine wp_region ?_
          rw [hrange]
          refine reg_sound2 (Γ := Γ) (N := N) hC _ x e h n a w _ (by simp) ?_ st hk ?_
          · intro i k io h1 h2
            rcases hget 0 x.length i with h3 | h3
            · rw [h3] at h1; cases h1
              refine g2 _ io ?_
              rw [Nat.zero_add, List.getElem?_append, if_pos (List.getElem?_eq_some_iff.1 h2).1]
              exact h2
            · rw [h3] at h1; cases h1
          · rintro e' h' n' a' w' ⟨σ, l, os, hcov, hk'⟩ st'
            have st2 := st'.cov ⟨hcov.nd, hcov.obs⟩ (by rw [hA]; exact hcov.anc) (covAll_env l hcov.env)
            have hq := reg_sound2 (l2 := []) (Q := fun x a' w' => ∃ e' h' n', K x e' h' n' ∧ St w0 pass own0 A N e' h' n' a' w') (Γ := Γ) (N := N) hC (ops := ops) (List.range' x.length y.length) y _ _ _ a' w' (K .normal) (by simp) ?_ st2 hk' (fun e' h' n' a' w' hk' st' => ⟨e', h', n', hk', st'⟩)
            · rwa [List.append_nil] at hq
            · intro i k io h1 h2
              rcases hget x.length y.length i with h3 | h3
              · rw [h3] at h1; cases h1
                refine g2 _ io ?_
                rw [List.getElem?_append, if_neg (by omega)]
                have : x.length + i - x.length = i := by omega
                rw [this]; exact h2
              · rw [h3] at h1; cases h1
        · exfalso; simp only [if_true] at hc; (repeat' split at hc) <;> simp at hc
      · cases hc
    · cases hc
  all_goals ((repeat' split at hc) <;> simp at hc)
end
def ctxOf : List (Nat × Spec) → Ctx
  | [], _ => none
  | (g, S) :: r, f => if f = g then some S else ctxOf r f
theorem rely_nil {P : Program} (hm : P.follows .mixedOrders = true) : Rely P (ctxOf []) := ⟨hm, fun _ _ h => by simp [ctxOf] at h, fun _ _ h => by simp [ctxOf] at h⟩
theorem rely_cons {P : Program} {g : Nat} {S : Spec} {l : List (Nat × Spec)} (hb : HasBody P g) (hs : S.Sound P g) (hl : Rely P (ctxOf l)) : Rely P (ctxOf ((g, S) :: l)) := by
  refine ⟨hl.mixed, fun f T h => ?_, fun f T h => ?_⟩
  · simp only [ctxOf] at h
    split at h
    · rename_i hf; cases h; subst hf; exact hs
    · exact hl.sound f T h
  · simp only [ctxOf] at h
    split at h
    · rename_i hf; subst hf; exact hb
    · exact hl.body f T h
def ints (xs : List Int) : List (List AV) := xs.map fun n => [.int .i64 n]
theorem length_ints (xs : List Int) : (ints xs).length = xs.length := by simp [ints]
theorem ints_at {xs : List Int} {i : Nat} (h : i < xs.length) : (ints xs)[((i : Nat) : Int).toNat]? = some [.int .i64 (xs.getD i 0)] := by
  simp [ints, List.getElem?_map, List.getElem?_eq_getElem h, List.getD_eq_getElem?_getD]
theorem ints_at' {xs : List Int} {i : Int} (h0 : 0 ≤ i) (h : i < xs.length) : (ints xs)[i.toNat]? = some [.int .i64 (xs.getD i.toNat 0)] := by
  have : i.toNat < xs.length := by omega
  simp [ints, List.getElem?_map, List.getElem?_eq_getElem this, List.getD_eq_getElem?_getD]
/-! ### slices of rows of any kind -/
theorem map_at {α : Type} [Inhabited α] {f : α → List AV} {xs : List α} {i : Nat} (h : i < xs.length) : (xs.map f)[((i : Nat) : Int).toNat]? = some (f (xs.getD i default)) := by
  simp [List.getElem?_map, List.getElem?_eq_getElem h, List.getD_eq_getElem?_getD]
theorem map_at0 {α : Type} [Inhabited α] {f : α → List AV} {xs : List α} {i : Nat} (h : i < xs.length) : (xs.map f)[0 + ((i : Nat) : Int).toNat]? = some (f (xs.getD i default)) := by
  rw [Nat.zero_add]; exact map_at h
theorem take_succ_D {α : Type} [Inhabited α] {l : List α} {i : Nat} (hi : i < l.length) : l.take (i + 1) = l.take i ++ [l.getD i default] := by
  rw [List.take_add_one, List.getElem?_eq_getElem hi, List.getD_eq_getElem?_getD, List.getElem?_eq_getElem hi]
  rfl
theorem fill_stepD {α : Type} [Inhabited α] {f : α → List AV} {l : List α} {z : α} {i : Nat} (hi : i < l.length) : ((l.take i ++ List.replicate (l.length - i) z).map f).set i (f (l.getD i default)) = (l.take (i + 1) ++ List.replicate (l.length - (i + 1)) z).map f := by
  rw [take_succ_D hi]
  have e : l.length - i = (l.length - (i + 1)) + 1 := by omega
  rw [e, List.replicate_succ]
  simp [List.set_append, Nat.min_eq_left (Nat.le_of_lt hi)]
theorem ints_nov (l : List Int) : (ints l).all AV.novs = true := by
  simp [ints, AV.novs, AV.nov]
theorem ints_at0 {xs : List Int} {i : Nat} (h : i < xs.length) : (ints xs)[0 + ((i : Nat) : Int).toNat]? = some [.int .i64 (xs.getD i 0)] := by
  rw [Nat.zero_add]; exact ints_at h
theorem SB : (∀ (p : Prop) [Decidable p], decide p = true ↔ p) ∧ (∀ (p : Prop) [Decidable p], decide p = false ↔ ¬ p) ∧ (∀ b : Bool, (!b) = true ↔ b = false) ∧ (∀ b : Bool, (!b) = false ↔ b = true) ∧ (∀ b : Bool, (!!b) = b) ∧
    (∀ (α : Type) (a b : α), a ≠ b ↔ ¬ a = b) ∧ (∀ xs, (ints xs).length = xs.length) ∧ (∀ (α β : Type) (f : α → β) (l : List α), (l.map f).length = l.length) ∧
    (∀ (α : Type) [BEq α] [LawfulBEq α] (a b : α), (a == b) = true ↔ a = b) ∧ (∀ (α : Type) [BEq α] [LawfulBEq α] (a b : α), (a == b) = false ↔ ¬ a = b) ∧
    (∀ (α : Type) [BEq α] [LawfulBEq α] (a b : α), (a != b) = true ↔ ¬ a = b) ∧ (∀ (α : Type) [BEq α] [LawfulBEq α] (a b : α), (a != b) = false ↔ a = b) ∧
    (∀ a b : Int, ¬ a ≤ b ↔ b < a) ∧ (∀ a b : Int, ¬ a < b ↔ b ≤ a) ∧ (∀ a b : Int, a ≥ b ↔ b ≤ a) ∧ (∀ a b : Int, a > b ↔ b < a) ∧ (¬ False ↔ True) ∧ (¬ True ↔ False) ∧ (false = true ↔ False) ∧ (true = false ↔ False) ∧ (∀ (α : Type) (a : α), a = a ↔ True) := by
  refine ⟨?_, ?_, ?_, ?_, ?_, ?_, ?_, ?_, ?_, ?_, ?_, ?_, ?_, ?_, ?_, ?_, ?_, ?_, ?_, ?_, ?_⟩ <;> intros <;> simp [ints]
/-! ### what a call is handed -/
theorem args_cons {h : Heap} {x y : AV} {xs ys : List AV} (h1 : x.snap h = y) (h2 : xs.map (AV.snap h) = ys) : (x :: xs).map (AV.snap h) = y :: ys := by rw [List.map_cons, h1, h2]
theorem cells_cons {h : Heap} {x y : AV} {xs ys : List AV} (h1 : x.snap1 h = y) (h2 : xs.map (AV.snap1 h) = ys) : (x :: xs).map (AV.snap1 h) = y :: ys := by rw [List.map_cons, h1, h2]
theorem snap_agg {h : Heap} {xs ys : List AV} (h1 : xs.map (AV.snap1 h) = ys) : (AV.agg xs).snap h = .agg ys := by rw [AV.snap, h1]
theorem snap1_ref {h : Heap} {id off len z : Nat} {rows rows' : List (List AV)} (ho : h id = some (.arr z rows)) (hl : off + len ≤ rows.length) (hs : sub rows off len = rows') : (AV.ref id off len).snap1 h = .val rows' := by
  subst hs; simp [AV.snap1, ho, hl]
theorem snap1_all {h : Heap} {id len z : Nat} {rows : List (List AV)} (ho : h id = some (.arr z rows)) (hl : rows.length = len) : (AV.ref id 0 len).snap1 h = .val rows := by
  subst hl; exact snap1_ref ho (by simp) (by simp [sub])
theorem snap1_all2 {h h2 : Heap} {id len z : Nat} {rows : List (List AV)} (ho : h id = some (.arr z rows)) (hl : rows.length = len) : ((AV.ref id 0 len).snap1 h).snap1 h2 = .val rows := by
  rw [snap1_all ho hl]; rfl
theorem snap_all {h : Heap} {id len z : Nat} {rows : List (List AV)} (ho : h id = some (.arr z rows)) (hl : rows.length = len) : (AV.ref id 0 len).snap h = .val rows := snap1_all ho hl
theorem rel_len {w : World} {own : Nat → Prop} {π : Pl} {n : Nat} {rows : List (List AV)} {v : Value} (h : Rel w own π n (.val rows) v) : rows.length ≤ 9223372036854775807 := by
  cases h with
  | valNil => simp
  | val => assumption
theorem rels_at {w : World} {own : Nat → Prop} {π : Pl} {n : Nat} {xs : List AV} {vs : List Value} (h : Rels w own π n xs vs) {i : Nat} {x : AV} (hx : xs[i]? = some x) : ∃ v, Rel w own π n x v := by
  have hi := (List.getElem?_eq_some_iff.1 hx).1
  have : i < vs.length := by rw [← h.1]; exact hi
  exact ⟨_, h.2 i x _ hx (List.getElem?_eq_getElem this)⟩
/-! ### steps of the evaluation, in short -/
theorem G1 {p q : Prop} (h : q) (hp : p := by first | exact rfl | exact Int.natCast_nonneg _ | exact lens_all rfl | omega | (show _ ≤ _ ∧ (_ + 1) * _ ≤ _ ∧ _ + 1 ≤ _; first | omega | (simp [length_ints]; omega)) | (show 1 * _ ≤ _ ∧ 1 ≤ _; omega) | (simp [length_ints]; omega) | (show _ ∧ _; simp; done) | fail) : p ∧ q := ⟨hp, h⟩
theorem G2 {a : Int} {Q : Int → Prop} (h : Q a) (hi : -9223372036854775808 ≤ a ∧ a ≤ 9223372036854775807 := by omega) : ∃ c, IntKind.i64.wrap a = c ∧ Q c := ⟨_, IntWalk.i64_in _ hi, h⟩
def force (v : AV) (K : AV → Prop) : Prop := match v with
  | .top => K .top
  | .undef => K .undef
  | .int k n => K (.int k n)
  | .bool b => (b = true → K (.bool true)) ∧ (b = false → K (.bool false))
  | .str s => K (.str s)
  | .agg vs => K (.agg vs)
  | .tup vs => K (.tup vs)
  | .ref id off len => K (.ref id off len)
  | .snil => K .snil
  | .val rows => K (.val rows)
  | .ptr id i off => K (.ptr id i off)
  | .rptr row off => K (.rptr row off)
  | .pnil => K .pnil
  | .fn f caps => K (.fn f caps)
  | .fnil => K .fnil
  | .maybe c d => K (.maybe c d)
  | .own z rows => K (.own z rows)
  | .tmp rows => K (.tmp rows)
  | .mp id => K (.mp id)
theorem force_eq (v : AV) (K : AV → Prop) : force v K = K v := by
  cases v <;> try rfl
  rename_i b
  cases b <;> simp [force]
def force0 (v : AV) (K : AV → Prop) : Prop := match v with
  | .top => K .top
  | .undef => K .undef
  | .int k n => K (.int k n)
  | .bool true => K (.bool true)
  | .bool false => K (.bool false)
  | .str s => K (.str s)
  | .agg vs => K (.agg vs)
  | .tup vs => K (.tup vs)
  | .ref id off len => K (.ref id off len)
  | .snil => K .snil
  | .val rows => K (.val rows)
  | .ptr id i off => K (.ptr id i off)
  | .rptr row off => K (.rptr row off)
  | .pnil => K .pnil
  | .fn f caps => K (.fn f caps)
  | .fnil => K .fnil
  | .maybe c d => K (.maybe c d)
  | .own z rows => K (.own z rows)
  | .tmp rows => K (.tmp rows)
  | .mp id => K (.mp id)
theorem force0_eq (v : AV) (K : AV → Prop) : force0 v K = K v := by
  cases v <;> try rfl
  rename_i b
  cases b <;> rfl
def Tag.makes : Tag → Bool
  | .bin _ | .beq _ | .aeq _ _ | .ld1 | .fld1 _ | .ext _ | .call _ | .dyn | .aidx _ => true
  | _ => false
def forceT (t : Tag) (v : AV) (K : AV → Prop) : Prop := match t.makes with
  | true => force v K
  | false => force0 v K
theorem forceT_eq (t : Tag) (v : AV) (K : AV → Prop) : forceT t v K = K v := by
  unfold forceT
  split
  · exact force_eq v K
  · exact force0_eq v K
def guardK2 (o : IOper) (e : Env) (yes no : Prop) : Prop := match o.g with
  | none => yes
  | some (t, b) => match e t with
    | .bool c => (match c, b with
      | true, true => yes
      | false, false => yes
      | true, false => no
      | false, true => no)
    | .undef => no
    | _ => False
theorem guardK2_eq (o : IOper) (e : Env) (yes no : Prop) : guardK2 o e yes no = guardK o e yes no := by
  unfold guardK2 guardK
  cases o.g with
  | none => rfl
  | some g =>
    obtain ⟨t, b⟩ := g
    simp only []
    cases e t <;> try rfl
    rename_i c
    cases c <;> cases b <;> simp
def condK2 (v : AV) (yes no : Prop) : Prop := match v with
  | .maybe c d => (c → yes) ∧ (d → no)
  | .bool c => (match c with
    | true => yes
    | false => no)
  | _ => False
theorem condK2_eq (v : AV) (yes no : Prop) : condK2 v yes no = condK v yes no := by
  unfold condK2 condK
  cases v <;> try rfl
  rename_i c
  cases c <;> simp
def forceC (v : AV) (K : AV → Prop) : Prop := match v with
  | .top => K .top
  | .undef => K .undef
  | .int k n => K (.int k n)
  | .bool b => K (.bool b)
  | .str s => K (.str s)
  | .agg vs => K (.agg vs)
  | .tup vs => K (.tup vs)
  | .ref id off len => K (.ref id off len)
  | .snil => K .snil
  | .val rows => K (.val rows)
  | .ptr id i off => K (.ptr id i off)
  | .rptr row off => K (.rptr row off)
  | .pnil => K .pnil
  | .fn f caps => K (.fn f caps)
  | .fnil => K .fnil
  | .maybe c d => K (.maybe c d)
  | .own z rows => K (.own z rows)
  | .tmp rows => K (.tmp rows)
  | .mp id => K (.mp id)
theorem forceC_eq (v : AV) (K : AV → Prop) : forceC v K = K v := by cases v <;> rfl
def forceRow (row : List AV) : (List AV → Prop) → Prop :=
  List.rec (motive := fun _ => (List AV → Prop) → Prop) (fun K => K []) (fun c _ ih K => forceC c fun c => ih fun r => K (c :: r)) row
theorem forceRow_eq : ∀ (row : List AV) (K : List AV → Prop), forceRow row K = K row
  | [], _ => rfl
  | c :: r, K => by
    show (forceC c fun c => forceRow r fun r => K (c :: r)) = _
    rw [forceC_eq, forceRow_eq r]
def forceObj (o : AObj) (K : AObj → Prop) : Prop := match o with
  | .box row => forceRow row fun row => K (.box row)
  | .arr s rows => K (.arr s rows)
  | .nst s rows => K (.nst s rows)
  | .arx s rows => K (.arx s rows)
  | .map st es => K (.map st es)
  | .itr st c l => K (.itr st c l)
theorem forceObj_eq (o : AObj) (K : AObj → Prop) : forceObj o K = K o := by
  cases o <;> simp [forceObj, forceRow_eq]
def forceL (l : List Nat) : (List Nat → Prop) → Prop :=
  List.rec (motive := fun _ => (List Nat → Prop) → Prop) (fun K => K []) (fun a _ ih K => ih fun r => K (a :: r)) l
theorem forceL_eq : ∀ (l : List Nat) (K : List Nat → Prop), forceL l K = K l
  | [], _ => rfl
  | a :: r, K => by
    show (forceL r fun r => K (a :: r)) = _
    rw [forceL_eq r]
def addK (f : Nat → Option Nat) (objs : List AObj) : Heap → Nat → (Heap → Nat → Prop) → Prop :=
  List.rec (motive := fun _ => Heap → Nat → (Heap → Nat → Prop) → Prop) (fun h n K => K h n) (fun o _ ih h n K => forceObj (o.mapId f) fun o => ih (h.set n o) (n + 1) K) objs
theorem addK_eq (f : Nat → Option Nat) : ∀ (objs : List AObj) (h : Heap) (n : Nat) (K : Heap → Nat → Prop), addK f objs h n K = K (addObjs h n (objs.map (AObj.mapId f))) (n + objs.length)
  | [], h, n, K => rfl
  | o :: r, h, n, K => by
    show (forceObj (o.mapId f) fun o => addK f r (h.set n o) (n + 1) K) = _
    rw [forceObj_eq, addK_eq f r]
    simp only [List.map_cons, addObjs, List.length_cons]
    rw [Nat.add_assoc, Nat.add_comm 1]
def setK (f : Nat → Option Nat) (out : List (Option AObj)) : List Nat → Heap → Nat → (Heap → Prop) → Prop :=
  List.rec (motive := fun _ => List Nat → Heap → Nat → (Heap → Prop) → Prop) (fun _ h _ K => K h)
    (fun o _ ih l h n K => match l, o with
      | id :: l, some o => forceObj (o.mapId f) fun o => ih l (h.set id o) n K
      | id :: l, none => ih l (h.del id) n K
      | [], some o => forceObj (o.mapId f) fun o => ih [] (h.set n o) (n + 1) K
      | [], none => ih [] h (n + 1) K) out
theorem setK_eq (f : Nat → Option Nat) : ∀ (out : List (Option AObj)) (l : List Nat) (h : Heap) (n : Nat) (K : Heap → Prop), setK f out l h n K = K (setObjs h n l (out.map fun o => o.map (AObj.mapId f)))
  | [], l, h, n, K => by
    show K h = _
    cases l <;> rfl
  | o :: r, l, h, n, K => by
    cases l with
    | nil =>
      cases o with
      | none => show setK f r [] h (n + 1) K = _; rw [setK_eq f r]; rfl
      | some o => show (forceObj (o.mapId f) fun o => setK f r [] (h.set n o) (n + 1) K) = _; rw [forceObj_eq, setK_eq f r]; rfl
    | cons id l =>
      cases o with
      | none => show setK f r l (h.del id) n K = _; rw [setK_eq f r]; rfl
      | some o => show (forceObj (o.mapId f) fun o => setK f r l (h.set id o) n K) = _; rw [forceObj_eq, setK_eq f r]; rfl
structure GH (G : GFun) (xs : List AV) (objs : List AObj) (Q : AV → List (Option AObj) → Prop) : Prop where
  holds : G xs objs Q
def callGen2 (k : Nat) (G : GFun) (args : List AV) (h : Heap) (n : Nat) (K : Kont) : Prop :=
  forceL (reach h args) fun l => chk (hasLen l k && allLive h l)
    (GH G (args.map (AV.mapId (place l))) (l.map fun id => ((h id).getD default).mapId (place l))
      fun r out => setK (unplace l n) out l h n fun h' => K (r.mapId (unplace l n)) h' (n + (out.length - k)))
theorem callGen2_eq (k : Nat) (G : GFun) (args : List AV) (h : Heap) (n : Nat) (K : Kont) : callGen2 k G args h n K = callGen k G args h n K := by
  unfold callGen2 callGen
  rw [forceL_eq, chk_eq, Bool.and_eq_true, hasLen_iff, allLive_iff]
  refine propext ⟨fun ⟨⟨a, b⟩, c⟩ => ⟨a, b, ?_⟩, fun ⟨a, b, c⟩ => ⟨⟨a, b⟩, ⟨?_⟩⟩⟩
  · have := c.holds
    simpa only [setK_eq] using this
  · simpa only [setK_eq] using c
def callPure2 (R : List AV → AV → List AObj → Prop) (args : List AV) (h : Heap) (n : Nat) (K : Kont) : Prop :=
  ∃ r objs, R (args.map (AV.snap h)) r objs ∧ addK (shift n) objs h n fun h' n' => K (r.mapId (shift n)) h' n'
theorem callPure2_eq (R : List AV → AV → List AObj → Prop) (args : List AV) (h : Heap) (n : Nat) (K : Kont) : callPure2 R args h n K = callPure R args h n K := by
  unfold callPure2 callPure
  simp only [addK_eq]
def CK2 (Γ : Ctx) : CallF := fun f xs h n K => match Γ f with
  | some (.pure R) => callPure2 R xs h n K
  | some (.loose R) => chk (xs.all AV.freeA) (callPure2 R xs h n K)
  | some (.gen k G) => callGen2 k G xs h n K
  | none => False
theorem CK2_eq (Γ : Ctx) : CK2 Γ = CK Γ := by
  funext f xs h n K
  unfold CK2 CK
  cases Γ f with
  | none => rfl
  | some S =>
    cases S with
    | pure R => exact callPure2_eq R xs h n K
    | loose R => show chk _ _ = (_ ∧ _); rw [chk_eq, callPure2_eq]
    | gen k G => exact callGen2_eq k G xs h n K
def lones : List AV → Bool
  | [] => true
  | c :: r => c.lone && lones r
theorem lones_iff : ∀ {l : List AV}, lones l = true ↔ ∀ c ∈ l, c.lone = true
  | [] => by simp [lones]
  | x :: r => by simp [lones, lones_iff (l := r)]
def lenK (l : List AV) : (Nat → Prop) → Prop := List.rec (motive := fun _ => (Nat → Prop) → Prop) (fun K => K 0) (fun _ _ ih K => ih fun m => K (m + 1)) l
theorem lenK_eq : ∀ (l : List AV) (K : Nat → Prop), lenK l K = K l.length
  | [], _ => rfl
  | _ :: r, K => by
    show (lenK r fun m => K (m + 1)) = _
    rw [lenK_eq r]
    rfl
def rowsK (vs : List AV) : (List (List AV) → Prop) → Prop :=
  List.rec (motive := fun _ => (List (List AV) → Prop) → Prop) (fun K => K []) (fun v _ ih K => forceRow v.cells fun r => ih fun rs => K (r :: rs)) vs
theorem rowsK_eq : ∀ (vs : List AV) (K : List (List AV) → Prop), rowsK vs K = K (vs.map AV.cells)
  | [], _ => rfl
  | v :: r, K => by
    show (forceRow v.cells fun x => rowsK r fun rs => K (x :: rs)) = _
    rw [forceRow_eq, rowsK_eq r]
    rfl
def semBinF (op : BinOp) (x y : AV) (K : AV → Prop) : Prop :=
  match x, y with
  | .int k a, .int k' b => if op = .shl ∨ op = .shr then semShift op k a b K else chk (decide (k = k')) (semInt op k a b K)
  | .str a, .str b => semStr op a b K
  | _, _ => False
theorem semBinF_eq (op : BinOp) (x y : AV) (K : AV → Prop) : semBinF op x y K = semBin op x y K := by
  unfold semBinF semBin
  split <;> simp only [chk_eq, decide_eq_true_eq]
def semF (tag : Tag) (vs : List AV) (h : Heap) (n : Nat) (K : Kont) : Prop :=
  match tag, vs with
  | .bin op, [x, y] => semBinF op x y fun v => K v h n
  | .box s, [v] => chk (hasLen v.cells s && okcs h v.cells) (forceRow v.cells fun row => K (.ptr n 0 0) (h.set n (.box row)) (n + 1))
  | .ld1, [.ptr id i off] => (match h id with
    | some (.box row) => chk (Nat.beq i 0) (match row[off]? with | some v => K v h n | Option.none => False)
    | some (.arr _ rows) => (match rows[i]? with
      | some row => (match row[off]? with | some v => K v h n | Option.none => False)
      | Option.none => False)
    | some (.nst _ rows) => (match rows[i]? with
      | some row => (match row[off]? with | some v => chk v.free (K v h n) | Option.none => False)
      | Option.none => False)
    | some (.arx _ rows) => (match rows[i]? with
      | some row => (match row[off]? with | some v => chk v.lone (K v h n) | Option.none => False)
      | Option.none => False)
    | _ => False)
  | .st s, [.ptr id i off, v] => chk (hasLen v.cells s && okcs h v.cells) (match h id with
    | some (.box row) => chk (Nat.beq i 0 && atLeast row (off + s)) (forceRow (setCells row off v.cells) fun row => K .undef (h.set id (.box row)) n)
    | some (.arr z rows) => (match rows[i]? with
      | some row => chk (atLeast row (off + s) && frees v.cells) (forceRow (setCells row off v.cells) fun row => K .undef (h.set id (.arr z (rows.set i row))) n)
      | Option.none => False)
    | some (.nst z rows) => (match rows[i]? with
      | some row => chk (atLeast row (off + s) && frees v.cells) (forceRow (setCells row off v.cells) fun row => K .undef (h.set id (.nst z (rows.set i row))) n)
      | Option.none => False)
    | some (.arx z rows) => (match rows[i]? with
      | some row => chk (atLeast row (off + s)) (forceRow (setCells row off v.cells) fun row => K .undef (h.set id (.arx z (rows.set i row))) n)
      | Option.none => False)
    | _ => False)
  | .ldn s, [.ptr id i off] => (match h id with
    | some (.box row) => chk (Nat.beq i 0 && atLeast row (off + s)) (forceRow (sub row off s) fun r => K (.agg r) h n)
    | some (.arr _ rows) => (match rows[i]? with
      | some row => chk (atLeast row (off + s)) (forceRow (sub row off s) fun r => K (.agg r) h n)
      | Option.none => False)
    | some (.nst _ rows) => (match rows[i]? with
      | some row => chk (atLeast row (off + s) && frees (sub row off s)) (forceRow (sub row off s) fun r => K (.agg r) h n)
      | Option.none => False)
    | some (.arx _ rows) => (match rows[i]? with
      | some row => chk (atLeast row (off + s) && lones (sub row off s)) (forceRow (sub row off s) fun r => K (.agg r) h n)
      | Option.none => False)
    | _ => False)
  | .ldn s, [.rptr row off] => chk (atLeast row (off + s)) (forceRow (sub row off s) fun r => K (.agg r) h n)
  | .iadr s, [.ref id off len, .int _ i] => (0 ≤ i ∧ i < len) ∧ (match h id with
    | some (.arr z _) => chk (Nat.beq z s) (K (.ptr id (off + i.toNat) 0) h n)
    | some (.nst z _) => chk (Nat.beq z s) (K (.ptr id (off + i.toNat) 0) h n)
    | some (.arx z _) => chk (Nat.beq z s) (K (.ptr id (off + i.toNat) 0) h n)
    | _ => False)
  | .iadr s, [.val rows, .int _ i] => 0 ≤ i ∧ (match rows[i.toNat]? with
    | some row => chk (hasLen row s) (K (.rptr row 0) h n)
    | Option.none => False)
  | .fldn off s, [.agg vs] => chk (atLeast vs (off + s)) (forceRow (sub vs off s) fun r => K (.agg r) h n)
  | .bld zero places, vs => chk (okvs h vs) (match fillRow zero places vs with | some row => forceRow row fun row => K (.agg row) h n | Option.none => False)
  | .bsl s, vs => chk (bslB s vs && Nat.ble (vs.length * s) 16777216) (lenK vs fun m => rowsK vs fun rows => K (.ref n 0 m) (h.set n (.arr s rows)) (n + 1))
  | .bslv s, vs => chk (clenB s vs && Nat.ble (vs.length * s) 16777216) (rowsK vs fun rows => match vs.all fun v => v.cells.all AV.free with
    | true => K (.val rows) h n
    | false => chk (okvs anyH vs) (K (.tmp rows) h n))
  | .mks s bytes zero, [.int _ l, .int _ c] => (0 ≤ l ∧ l ≤ c ∧ (bytes : Int) * c ≤ 140737488355328 ∧ c ≤ 140737488355328) ∧
      K (.ref n 0 l.toNat) (h.set n (.arr s (List.replicate l.toNat zero))) (n + 1)
  | .slc s lo hi, .ref id off len :: r => (match optArgs lo hi r len, h id with
    | some (a, b), some (.arr z _) => (0 ≤ a ∧ a ≤ b ∧ b ≤ len) ∧ chk (Nat.beq z s) (K (.ref id (off + a.toNat) (b - a).toNat) h n)
    | _, _ => False)
  | .slc s lo hi, .val rows :: r => (match optArgs lo hi r rows.length with
    | some (a, b) => (0 ≤ a ∧ a ≤ b ∧ b ≤ rows.length) ∧ (∀ r ∈ rows, r.length = s) ∧ K (.val (sub rows a.toNat (b - a).toNat)) h n
    | Option.none => False)
  | .sls lo hi, .str s :: r => (match optArgs lo hi r s.length with
    | some (a, b) => (0 ≤ a ∧ a ≤ b ∧ b ≤ s.length) ∧ K (.str (sub s a.toNat (b - a).toNat)) h n
    | Option.none => False)
  | .app s bytes, [.ref id off len, x] => chk (Nat.beq off 0) (match h id, rowsOf h x with
    | some (.arr z rows), some more => chk (Nat.beq z s) ((∀ r ∈ more, r.length = s) ∧ (len ≤ rows.length ∧ (len + more.length) * bytes ≤ 140737488355328 ∧
        len + more.length ≤ 140737488355328) ∧ K (.ref n 0 (len + more.length)) ((h.del id).set n (.arr s (rows.take len ++ more))) (n + 1))
    | some o, none => (match o.rowsX, x.rowsX with
      | some (z, rows), some more => chk (Nat.beq z s) ((∀ r ∈ more, r.length = s) ∧ (len ≤ rows.length ∧ (len + more.length) * bytes ≤ 140737488355328 ∧
        len + more.length ≤ 140737488355328) ∧ K (.ref n 0 (len + more.length)) ((h.del id).set n (.arx s (rows.take len ++ more))) (n + 1))
      | _, _ => False)
    | _, _ => False)
  | .app s bytes, [.snil, x] => (match rowsOf h x with
    | some more => (∀ r ∈ more, r.length = s) ∧ (more.length * bytes ≤ 140737488355328 ∧ more.length ≤ 140737488355328) ∧
        K (.ref n 0 more.length) (h.set n (.arr s more)) (n + 1)
    | Option.none => False)
  | .slc3 s, [.ref id off len, .int _ b, .int _ m] => (0 ≤ b ∧ b ≤ m ∧ m ≤ len) ∧ (match h id with
    | some (.arr z _) => chk (Nat.beq z s) (K (.ref id off b.toNat) h n)
    | _ => False)
  | .mlk st, [.mp id, k] => (match h id, keyOf st k with
    | some (.map st' es), some k => chk (st' == st) (K (.int .i64 (mget es k)) h n)
    | _, _ => False)
  | .mlo st, [.mp id, k] => (match h id, keyOf st k with
    | some (.map st' es), some k => chk (st' == st) (K (.tup [.int .i64 (mget es k), .bool (mhas es k)]) h n)
    | _, _ => False)
  | .mup st, [.mp id, k, .int .i64 v] => (match h id, keyOf st k with
    | some (.map st' es), some k => chk (st' == st) (K .undef (h.set id (.map st (mset es k v))) n)
    | _, _ => False)
  | .rng st, [.mp id] => (match h id with
    | some (.map st' es) => chk (st' == st) (K (.ptr n 0 0) ((h.del id).set n (.itr st none es)) (n + 1))
    | _ => False)
  | t, vs => sem t vs h n K
theorem semF_eq (tag : Tag) (vs : List AV) (h : Heap) (n : Nat) (K : Kont) : semF tag vs h n K = sem tag vs h n K := by
  unfold semF
  split
  all_goals simp only [sem, semBinF_eq, lenK_eq, rowsK_eq, forceRow_eq, chk_eq, Bool.and_eq_true, hasLen_iff, atLeast_iff, okcs_iff, okvs_iff, frees_iff, lones_iff, bsl_iff, clen_iff, Nat.beq_eq, Nat.ble_eq, and_assoc, beq_iff_eq]
  all_goals (repeat' (split <;> (try rfl)))
  all_goals first | rfl | grind
def opX2 (C : CallF) (o : IOper) (e : Env) (h : Heap) (n : Nat) (K : Kont) : Prop :=
  match o.tag with
  | .call f => C f (o.args.map (Opd.ev e)) h n K
  | .dyn => (match o.args.map (Opd.ev e) with
    | .fn f caps :: r => C f (r ++ caps) h n K
    | _ => False)
  | t => semF t (o.args.map (Opd.ev e)) h n K
theorem opX2_eq (C : CallF) (o : IOper) (e : Env) (h : Heap) (n : Nat) (K : Kont) : opX2 C o e h n K = opX C o e h n K := by
  unfold opX2 opX
  cases o.tag <;> first | rfl | exact semF_eq _ _ _ _ _
def opK2 (Γ : Ctx) (o : IOper) (e : Env) (h : Heap) (n : Nat) (K : Kont) : Prop :=
  match o.tag with
  | .nxt => nextK (o.args.map (Opd.ev e)) h n K
  | _ => opX2 (CK2 Γ) o e h n K
theorem opK2_eq (Γ : Ctx) (o : IOper) (e : Env) (h : Heap) (n : Nat) (K : Kont) : opK2 Γ o e h n K = opK Γ o e h n K := by
  unfold opK2 opK opN
  rw [CK2_eq]
  simp only [opX2_eq]
  cases o.tag <;> rfl
def opD2 (Γ : Ctx) (o : IOper) (e : Env) (h : Heap) (n : Nat) (K : Kont) : Prop := opX2 (CD Γ) o e h n K
theorem opD2_eq (Γ : Ctx) (o : IOper) (e : Env) (h : Heap) (n : Nat) (K : Kont) : opD2 Γ o e h n K = opD Γ o e h n K := opX2_eq _ _ _ _ _ _
def regK2 (Γ : Ctx) (l : List IOper) : Env → Heap → Nat → (Env → Heap → Nat → Prop) → Prop :=
  List.rec (motive := fun _ => Env → Heap → Nat → (Env → Heap → Nat → Prop) → Prop) (fun e h n K => K e h n)
    (fun o _ ih e h n K => guardK2 o e (opK2 Γ o e h n fun v h' n' => forceT o.tag v fun v => ih (e.updo o.dst v) h' n' K) (ih (e.updo o.dst .undef) h n K)) l
theorem regK2_eq (Γ : Ctx) : ∀ (l : List IOper) (e : Env) (h : Heap) (n : Nat) (K : Env → Heap → Nat → Prop), regK2 Γ l e h n K = regK Γ l e h n K
  | [], e, h, n, K => rfl
  | o :: r, e, h, n, K => by
    show guardK2 o e (opK2 Γ o e h n fun v h' n' => forceT o.tag v fun v => regK2 Γ r (e.updo o.dst v) h' n' K) (regK2 Γ r (e.updo o.dst .undef) h n K) = _
    simp only [regK, guardK2_eq, opK2_eq, regK2_eq Γ r, forceT_eq]
def drwK2 (Γ : Ctx) (l : List IOper) : Env → Heap → Nat → (Env → Heap → Nat → Prop) → Prop :=
  List.rec (motive := fun _ => Env → Heap → Nat → (Env → Heap → Nat → Prop) → Prop) (fun e h n K => K e h n)
    (fun o _ ih e h n K => guardK2 o e (opD2 Γ o e h n fun v h' n' => forceT o.tag v fun v => ih (e.updo o.dst v) h' n' K) (ih (e.updo o.dst .undef) h n K)) l
theorem drwK2_eq (Γ : Ctx) : ∀ (l : List IOper) (e : Env) (h : Heap) (n : Nat) (K : Env → Heap → Nat → Prop), drwK2 Γ l e h n K = drwK Γ l e h n K
  | [], e, h, n, K => rfl
  | o :: r, e, h, n, K => by
    show guardK2 o e (opD2 Γ o e h n fun v h' n' => forceT o.tag v fun v => drwK2 Γ r (e.updo o.dst v) h' n' K) (drwK2 Γ r (e.updo o.dst .undef) h n K) = _
    simp only [drwK, guardK2_eq, opD2_eq, drwK2_eq Γ r, forceT_eq]
def vc2 (P : Program) (N k : Nat) (Γ : Ctx) (ic : ICode) : XK → Env → Heap → Nat → Prop :=
  ICode.rec (motive := fun _ => XK → Env → Heap → Nat → Prop)
    (fun K e h n => K .normal e h n)
    (fun ios K e h n => regK2 Γ ios e h n (K .normal))
    (fun ios _ b1 _ K e h n => match b1 with
      | true => drwK2 Γ ios e h n (K .normal)
      | false => False)
    (fun pre post K e h n => drwK2 Γ pre e h n fun e h n => regK2 Γ post e h n (K .normal))
    (fun _ _ va vb K e h n => va (thenK (vb K) K) e h n)
    (fun z _ _ vx vy K e h n => condK2 (z.ev e) (vx K e h n) (vy K e h n))
    (fun id _ vb K e h n => vb (blockK id K) e h n)
    (fun b _ K e h n => Lp P N k b K e h n)
    (fun id K e h n => K (.exit id) e h n)
    (fun K e h n => K .ret e h n) ic
theorem vc2_eq (P : Program) (N k : Nat) (Γ : Ctx) : ∀ (ic : ICode) (K : XK) (e : Env) (h : Heap) (n : Nat), vc2 P N k Γ ic K e h n = vc P N k Γ ic K e h n
  | .skip, _, _, _, _ => rfl
  | .reg ios, K, e, h, n => by show regK2 Γ ios e h n (K .normal) = _; simp only [vc, regK2_eq]
  | .drw ios us true b2, K, e, h, n => by show drwK2 Γ ios e h n (K .normal) = _; simp only [vc, drwK2_eq]
  | .drw ios us false b2, K, e, h, n => rfl
  | .drs pre post, K, e, h, n => by
    show (drwK2 Γ pre e h n fun e h n => regK2 Γ post e h n (K .normal)) = _
    simp only [vc, drwK2_eq, regK2_eq]
  | .seq a b, K, e, h, n => by
    have hb : vc2 P N k Γ b K = vc P N k Γ b K := by funext e h n; exact vc2_eq P N k Γ b K e h n
    show vc2 P N k Γ a (thenK (vc2 P N k Γ b K) K) e h n = _
    simp only [vc, hb, vc2_eq P N k Γ a]
  | .cond z x y, K, e, h, n => by
    show condK2 (z.ev e) (vc2 P N k Γ x K e h n) (vc2 P N k Γ y K e h n) = _
    simp only [vc, condK2_eq, vc2_eq P N k Γ x, vc2_eq P N k Γ y]
  | .block id b, K, e, h, n => by
    show vc2 P N k Γ b (blockK id K) e h n = _
    simp only [vc, vc2_eq P N k Γ b]
  | .loop b, _, _, _, _ => rfl
  | .exit id, _, _, _, _ => rfl
  | .ret, _, _, _, _ => rfl
theorem vc2_sound {P : Program} {N k : Nat} {Γ : Ctx} (hR : Rely P Γ) (ic : ICode) (K : XK) (e : Env) (h : Heap) (n : Nat) (hv : vc2 P N k Γ ic K e h n) : Aw P N k ic K e h n :=
  vc_sound hR ic K e h n (by rw [← vc2_eq]; exact hv)
end Go.Proofs.YthanhknkoikbfaaDoor.Av
namespace Go.Proofs.YthanhknkoikbfaaDoor.Ct
open Go Go.Proofs Go.Proofs.YthanhknkoikbfaaDoor.Av
theorem mixed : Tryd.prog.follows .mixedOrders = true := by kernel_rfl
def c_spec_l1In : ICode := (.seq (.reg [Ol 6 .mv [cb false]]) (.seq (.reg [O1 7 .mv 0, O1 8 .mv 1, O2 9 (.bin .geq) 7 8, O1 10 .mv 9, Og 11 .mv [.t 0] 10 true, Og 12 .mv [.t 2] 10 true, Og 13 (.bin .leq) [.t 11, .t 12] 10 true, Ol 14 .pick [.t 10, .t 13, cb false], O1 6 .mv 14]) .ret))
theorem b_spec_l1In : Body Tryd.prog 27 15 c_spec_l1In [(.t 6)] := body_mk Tryd.func27 (by kernel_rfl) (by decide)
def c_impl_inRange : ICode := (.seq (.reg [Ol 6 .mv [cb false]]) (.seq (.reg [O1 7 .mv 0, O1 8 .mv 1, O2 9 (.bin .geq) 7 8, O1 10 .mv 9, Og 11 .mv [.t 0] 10 true, Og 12 .mv [.t 2] 10 true, Og 13 (.bin .leq) [.t 11, .t 12] 10 true, Ol 14 .pick [.t 10, .t 13, cb false], O1 6 .mv 14]) .ret))
theorem b_impl_inRange : Body Tryd.prog 39 15 c_impl_inRange [(.t 6)] := body_mk Tryd.func39 (by kernel_rfl) (by decide)
def c_impl_isLetters : ICode := (.seq (.reg [Ol 2 .mv [cb false]]) (.seq (.reg [O1 3 .mv 0, Ol 4 (.call 39) [.t 3, ci 1, ci 8], O1 2 .mv 4]) .ret))
theorem b_impl_isLetters : Body Tryd.prog 53 5 c_impl_isLetters [(.t 2)] := body_mk Tryd.func53 (by kernel_rfl) (by decide)
def RIn (xs : List AV) (r : AV) (objs : List AObj) : Prop := ∃ a b c, xs = [.int .i64 a, .int .i64 b, .int .i64 c] ∧ r = .bool (decide (b ≤ a ∧ a ≤ c)) ∧ objs = []
theorem RIn_mk {a b c : Int} : RIn [.int .i64 a, .int .i64 b, .int .i64 c] (.bool (decide (b ≤ a ∧ a ≤ c))) [] := ⟨a, b, c, rfl, rfl, rfl⟩
theorem s_spec_l1In : PureSound Tryd.prog 27 RIn := by
  have hR : Rely Tryd.prog (ctxOf []) := rely_nil mixed
  refine pure_of_aw b_spec_l1In ?_
  rintro xs r objs ⟨a, b, c, rfl, rfl, rfl⟩ hb
  refine ⟨by simp, vc2_sound hR _ _ _ _ _ ?_⟩
  conv => whnf
  repeat' ((first | contradiction | (refine And.intro (fun hb => ?_) (fun hb => ?_) <;> first | contradiction | ((try simp only [SB, reduceCtorEq] at hb); try (exfalso; first | contradiction | omega))) | refine G2 ?_ | rw [ints_at (by omega)] | rw [ints_at0 (by omega)] | rw [ints_at' (by omega) (by omega)] | refine G1 ?_ | fail) <;> conv => whnf)
  all_goals
    refine ⟨.inl rfl, ?_⟩
    conv => whnf
    refine ⟨[], ⟨rfl, trivial⟩, ?_, rfl, rfl⟩
    conv => whnf
    left
    conv => lhs; whnf
    refine congrArg AV.bool ?_
    simp_all
  all_goals omega
theorem s_impl_inRange : PureSound Tryd.prog 39 RIn := by
  have hR : Rely Tryd.prog (ctxOf []) := rely_nil mixed
  refine pure_of_aw b_impl_inRange ?_
  rintro xs r objs ⟨a, b, c, rfl, rfl, rfl⟩ hb
  refine ⟨by simp, vc2_sound hR _ _ _ _ _ ?_⟩
  conv => whnf
  repeat' ((first | contradiction | (refine And.intro (fun hb => ?_) (fun hb => ?_) <;> first | contradiction | ((try simp only [SB, reduceCtorEq] at hb); try (exfalso; first | contradiction | omega))) | refine G2 ?_ | rw [ints_at (by omega)] | rw [ints_at0 (by omega)] | rw [ints_at' (by omega) (by omega)] | refine G1 ?_ | fail) <;> conv => whnf)
  all_goals
    refine ⟨.inl rfl, ?_⟩
    conv => whnf
    refine ⟨[], ⟨rfl, trivial⟩, ?_, rfl, rfl⟩
    conv => whnf
    left
    conv => lhs; whnf
    refine congrArg AV.bool ?_
    simp_all
  all_goals omega
def RIsLetters (xs : List AV) (r : AV) (objs : List AObj) : Prop := ∃ n, xs = [.int .i64 n] ∧ r = .bool (decide (1 ≤ n ∧ n ≤ 8)) ∧ objs = []
theorem RIsLetters_mk {n : Int} : RIsLetters [.int .i64 n] (.bool (decide (1 ≤ n ∧ n ≤ 8))) [] := ⟨n, rfl, rfl, rfl⟩
theorem s_impl_isLetters : PureSound Tryd.prog 53 RIsLetters := by
  have hR : Rely Tryd.prog (ctxOf [(39, .pure RIn)]) := rely_cons b_impl_inRange.has s_impl_inRange (rely_nil mixed)
  refine pure_of_aw b_impl_isLetters ?_
  rintro xs r objs ⟨n, rfl, rfl, rfl⟩ -
  refine ⟨by simp, vc2_sound hR _ _ _ _ _ ?_⟩
  conv => whnf
  repeat' ((first | contradiction | (refine And.intro (fun hb => ?_) (fun hb => ?_) <;> first | contradiction | ((try simp only [SB, reduceCtorEq] at hb); try (exfalso; first | contradiction | omega))) | refine G2 ?_ | rw [ints_at (by omega)] | rw [ints_at0 (by omega)] | rw [ints_at' (by omega) (by omega)] | refine G1 ?_ | refine ⟨_, _, RIn_mk, ?_⟩ | fail) <;> conv => whnf)
  all_goals
    refine ⟨.inl rfl, ?_⟩
    conv => whnf
    refine ⟨[], ⟨rfl, trivial⟩, ?_, rfl, rfl⟩
    conv => whnf
    left
    conv => lhs; whnf
    try exact congrArg AV.bool (by simp_all)

def marks (k : Int) (n : Nat) : List Int := (List.range n).map fun i => k + (i : Nat)
@[simp] theorem length_marks (k : Int) (n : Nat) : (marks k n).length = n := by simp [marks]
end Go.Proofs.YthanhknkoikbfaaDoor.Ct
namespace Go.Proofs.YthanhknkoikbfaaDoor.Av
open Go

end Go.Proofs.YthanhknkoikbfaaDoor.Av
namespace Go.Proofs.YthanhknkoikbfaaDoor.Ct
open Go Go.Proofs Go.Proofs.YthanhknkoikbfaaDoor.Av
structure NodeD where
  kind : Int
  a : Int
  b : Int
  deriving Inhabited, DecidableEq
def nodeRow (n : NodeD) : List AV := [.int .i64 n.kind, .int .i64 n.a, .int .i64 n.b]
def nodeRows (l : List NodeD) : List (List AV) := l.map nodeRow
def c_impl_leaf : ICode := (.seq (.reg [O1 2 (.box 3) 0, Ol 4 .mv [ci 0]]) (.seq (.seq (.reg [O1 5 (.fadr 2) 2, O1 6 .ld1 5, Ol 7 (.bin .eql) [.t 6, ci 0], O1 8 .mv 7, Og 9 (.fadr 1) [.t 2] 8 true, Og 10 .ld1 [.t 9] 8 true, Og 11 .mv [.t 1] 8 true, Og 12 (.call 39) [.t 10, ci 0, .t 11] 8 true, Ol 13 .pick [.t 8, .t 12, cb false]]) (.cond (.t 13) (.seq (.reg [Ol 4 .mv [ci 0]]) .ret) .skip)) (.seq (.reg [Ol 4 .mv [ci (-1)]]) .ret)))
theorem b_impl_leaf : Body Tryd.prog 75 14 c_impl_leaf [(.t 4)] := body_mk Tryd.func75 (by kernel_rfl) (by decide)
def c_impl_exprParts : ICode := (.seq (.reg [O1 1 (.box 3) 0, Ol 2 .mv [ci 0]]) (.seq (.seq (.reg [O1 3 (.fadr 0) 1, O1 4 .ld1 3]) (.block 0 (.seq (.seq (.reg [Ol 6 (.bin .eql) [.t 4, ci 1], O1 5 .mv 6]) (.cond (.t 5) .skip (.reg [Ol 7 (.bin .eql) [.t 4, ci 2], O1 5 .mv 7]))) (.cond (.t 5) (.seq (.reg [O1 8 (.ldn 3) 1, Ol 9 (.call 75) [.t 8, ci 0], O1 2 .mv 9]) .ret) (.seq (.reg [Ol 11 (.bin .eql) [.t 4, ci 3], O1 10 .mv 11]) (.cond (.t 10) (.seq (.reg [O1 12 (.ldn 3) 1, Ol 13 (.call 75) [.t 12, ci 2], O1 2 .mv 13]) .ret) (.seq (.reg [Ol 15 (.bin .eql) [.t 4, ci 4], O1 14 .mv 15]) (.cond (.t 14) (.seq (.reg [Ol 2 .mv [ci 1]]) .ret) (.seq (.seq (.reg [Ol 17 (.bin .eql) [.t 4, ci 5], O1 16 .mv 17]) (.cond (.t 16) .skip (.reg [Ol 18 (.bin .eql) [.t 4, ci 6], O1 16 .mv 18]))) (.cond (.t 16) (.seq (.reg [Ol 2 .mv [ci 2]]) .ret) .skip)))))))))) (.seq (.reg [Ol 2 .mv [ci (-1)]]) .ret)))
theorem b_impl_exprParts : Body Tryd.prog 62 19 c_impl_exprParts [(.t 2)] := body_mk Tryd.func62 (by kernel_rfl) (by decide)
def c_spec_l2Leaf : ICode := (.seq (.reg [O1 1 (.box 3) 0, Ol 2 .mv [cb false]]) (.seq (.seq (.reg [O1 3 (.fadr 0) 1, O1 4 .ld1 3, Ol 5 (.bin .eql) [.t 4, ci 3]]) (.cond (.t 5) (.seq (.reg [O1 6 (.fadr 1) 1, O1 7 .ld1 6, Ol 8 (.call 27) [.t 7, ci 0, ci 2], O1 2 .mv 8]) .ret) .skip)) (.seq (.reg [O1 9 (.fadr 1) 1, O1 10 .ld1 9, Ol 11 (.bin .eql) [.t 10, ci 0], O1 2 .mv 11]) .ret)))
theorem b_spec_l2Leaf : Body Tryd.prog 51 12 c_spec_l2Leaf [(.t 2)] := body_mk Tryd.func51 (by kernel_rfl) (by decide)
def leafI (n : NodeD) (m : Int) : Int := if n.b = 0 ∧ 0 ≤ n.a ∧ n.a ≤ m then 0 else -1
def RLeaf (xs : List AV) (r : AV) (objs : List AObj) : Prop := ∃ n m, xs = [.agg (nodeRow n), .int .i64 m] ∧ r = .int .i64 (leafI n m) ∧ objs = []
theorem RLeaf_mk {n : NodeD} {m : Int} : RLeaf [.agg (nodeRow n), .int .i64 m] (.int .i64 (leafI n m)) [] := ⟨n, m, rfl, rfl, rfl⟩
theorem s_impl_leaf : PureSound Tryd.prog 75 RLeaf := by
  have hR : Rely Tryd.prog (ctxOf [(39, .pure RIn)]) := rely_cons b_impl_inRange.has s_impl_inRange (rely_nil mixed)
  refine pure_of_aw b_impl_leaf ?_
  rintro xs r objs ⟨n, m, rfl, rfl, rfl⟩ -
  refine ⟨by simp, vc2_sound hR _ _ _ _ _ ?_⟩
  conv => whnf
  repeat' ((first | (refine And.intro (fun hb => ?_) (fun hb => ?_) <;> ((try simp only [SB, reduceCtorEq] at hb); try (exfalso; omega))) | refine G2 ?_ | rw [ints_at (by omega)] | rw [ints_at0 (by omega)] | rw [ints_at' (by omega) (by omega)] | refine G1 ?_ | refine ⟨_, _, RIn_mk, ?_⟩ | fail) <;> conv => whnf)
  all_goals
    refine ⟨.inl rfl, ?_⟩
    conv => whnf
    refine ⟨[], ⟨rfl, trivial⟩, ?_, rfl, rfl⟩
    conv => whnf
    left
    conv => lhs; whnf
    refine congrArg (AV.int .i64) ?_
    unfold leafI
    first
    | (rw [if_pos (by omega)])
    | (rw [if_neg (by omega)])
def partsE (n : NodeD) : Int := if n.kind = 1 ∨ n.kind = 2 then leafI n 0 else if n.kind = 3 then leafI n 2 else if n.kind = 4 then 1 else if n.kind = 5 ∨ n.kind = 6 then 2 else -1
def RPartsE (xs : List AV) (r : AV) (objs : List AObj) : Prop := ∃ n, xs = [.agg (nodeRow n)] ∧ r = .int .i64 (partsE n) ∧ objs = []
theorem RPartsE_mk {n : NodeD} : RPartsE [.agg (nodeRow n)] (.int .i64 (partsE n)) [] := ⟨n, rfl, rfl, rfl⟩
theorem s_impl_exprParts : PureSound Tryd.prog 62 RPartsE := by
  have hR : Rely Tryd.prog (ctxOf [(75, .pure RLeaf)]) := rely_cons b_impl_leaf.has s_impl_leaf (rely_nil mixed)
  refine pure_of_aw b_impl_exprParts ?_
  rintro xs r objs ⟨n, rfl, rfl, rfl⟩ -
  refine ⟨by simp, vc2_sound hR _ _ _ _ _ ?_⟩
  conv => whnf
  repeat' ((first | (refine And.intro (fun hb => ?_) (fun hb => ?_) <;> ((try simp only [SB, reduceCtorEq] at hb); try (exfalso; omega))) | refine G2 ?_ | rw [ints_at (by omega)] | rw [ints_at0 (by omega)] | rw [ints_at' (by omega) (by omega)] | refine G1 ?_ | refine ⟨_, _, RLeaf_mk (n := n), ?_⟩ | fail) <;> conv => whnf)
  all_goals
    refine ⟨.inl rfl, ?_⟩
    conv => whnf
    refine ⟨[], ⟨rfl, trivial⟩, ?_, rfl, rfl⟩
    conv => whnf
    left
    conv => lhs; whnf
    refine congrArg (AV.int .i64) ?_
    simp only [partsE]
    (repeat' split) <;> first | rfl | omega
def leafS (n : NodeD) : Bool := if n.kind = 3 then decide (0 ≤ n.a ∧ n.a ≤ 2) else decide (n.a = 0)
def RLeafS (xs : List AV) (r : AV) (objs : List AObj) : Prop := ∃ n, xs = [.agg (nodeRow n)] ∧ r = .bool (leafS n) ∧ objs = []
theorem RLeafS_mk {n : NodeD} : RLeafS [.agg (nodeRow n)] (.bool (leafS n)) [] := ⟨n, rfl, rfl, rfl⟩
theorem s_spec_l2Leaf : PureSound Tryd.prog 51 RLeafS := by
  have hR : Rely Tryd.prog (ctxOf [(27, .pure RIn)]) := rely_cons b_spec_l1In.has s_spec_l1In (rely_nil mixed)
  refine pure_of_aw b_spec_l2Leaf ?_
  rintro xs r objs ⟨n, rfl, rfl, rfl⟩ -
  refine ⟨by simp, vc2_sound hR _ _ _ _ _ ?_⟩
  conv => whnf
  repeat' ((first | (refine And.intro (fun hb => ?_) (fun hb => ?_) <;> ((try simp only [SB, reduceCtorEq] at hb); try (exfalso; omega))) | refine G2 ?_ | rw [ints_at (by omega)] | rw [ints_at0 (by omega)] | rw [ints_at' (by omega) (by omega)] | refine G1 ?_ | refine ⟨_, _, RIn_mk, ?_⟩ | fail) <;> conv => whnf)
  all_goals
    refine ⟨.inl rfl, ?_⟩
    conv => whnf
    refine ⟨[], ⟨rfl, trivial⟩, ?_, rfl, rfl⟩
    conv => whnf
    left
    conv => lhs; whnf
    refine congrArg AV.bool ?_
    simp_all [leafS]
def sizeAt (n : NodeD) (p : Int) (i : Nat) (out : List Int) : Option Int :=
  if p = 1 then (if i < 1 ∨ n.a ≠ i - 1 ∨ n.b ≠ 0 then none else some (1 + out.getD (i - 1) 0))
  else if p = 2 then (if i < 2 ∨ n.b ≠ i - 1 then none else
    if (i : Int) - 1 - out.getD (i - 1) 0 < 0 ∨ n.a ≠ (i : Int) - 1 - out.getD (i - 1) 0 then none else some (1 + out.getD (i - 1) 0 + out.getD ((i : Int) - 1 - out.getD (i - 1) 0).toNat 0))
  else if n.b ≠ 0 then none else some 1
def sizes (l : List NodeD) (ps : List Int) : Nat → Option (List Int)
  | 0 => some []
  | i + 1 => match sizes l ps i with
    | some out => (sizeAt (l.getD i default) (ps.getD i 0) i out).map fun s => out ++ [s]
    | none => none
theorem sizes_none {l : List NodeD} {ps : List Int} {i : Nat} (h : sizes l ps i = none) : ∀ j, i ≤ j → sizes l ps j = none
  | 0, hj => by have : i = 0 := by omega
                subst this; exact h
  | j + 1, hj => by
    by_cases he : i = j + 1
    · subst he; exact h
    · simp only [sizes, sizes_none h j (by omega)]
theorem sizes_bound {l : List NodeD} {ps : List Int} : ∀ (i : Nat) (out : List Int), sizes l ps i = some out → out.length = i ∧ ∀ j, j < i → 1 ≤ out.getD j 0 ∧ out.getD j 0 ≤ j + 1
  | 0, out, h => by simp [sizes] at h; subst h; simp
  | i + 1, out, h => by
    simp only [sizes] at h
    split at h
    · rename_i o ho
      obtain ⟨s, hs, rfl⟩ := Option.map_eq_some_iff.1 h
      obtain ⟨h1, h2⟩ := sizes_bound i o ho
      refine ⟨by simp [h1], fun j hj => ?_⟩
      by_cases hji : j < i
      · have := h2 j hji
        rw [List.getD_eq_getElem?_getD, List.getElem?_append, if_pos (by omega), ← List.getD_eq_getElem?_getD]
        exact this
      · have hj' : j = i := by omega
        subst hj'
        have e : (o ++ [s]).getD j 0 = s := by
          rw [List.getD_eq_getElem?_getD, List.getElem?_append, if_neg (by omega)]
          simp [h1]
        rw [e]
        unfold sizeAt at hs
        split at hs
        · split at hs
          · cases hs
          · cases hs
            have := h2 (j - 1) (by omega)
            omega
        · split at hs
          · split at hs
            · cases hs
            · split at hs
              · cases hs
              · cases hs
                have a1 := h2 (j - 1) (by omega)
                have a2 := h2 ((j : Int) - 1 - o.getD (j - 1) 0).toNat (by omega)
                omega
          · split at hs
            · cases hs
            · cases hs; omega
    · cases h
def c_spec_l2Sizes : ICode := (.seq (.reg [Ol 4 .mv [.c .snil]]) (.seq (.reg [O0 10 .bsle, O1 5 .mv 10]) (.seq (.seq (.reg [Ol 6 .mv [ci 0]]) (.block 0 (.loop (.seq (.seq (.reg [O1 11 .mv 6, O1 12 .mv 0, O1 13 .len 12, O2 14 (.bin .lss) 11 13]) (.cond (.t 14) .skip (.exit 0))) (.seq (.block 1 (.seq (.reg [O1 17 .mv 0, O1 18 .mv 6, O2 19 (.iadr 3) 17 18, O1 20 (.ldn 3) 19, O0 7 (.alc [(.int .i64 0), (.int .i64 0), (.int .i64 0)]), S2 (.st 3) 7 20]) (.seq (.reg [Ol 8 .mv [ci 1]]) (.seq (.seq (.reg [O1 21 .mv 1, O1 22 .mv 6, O2 23 (.iadr 1) 21 22, O1 24 .ld1 23]) (.block 2 (.seq (.reg [Ol 30 (.bin .eql) [.t 24, ci 1], O1 29 .mv 30]) (.cond (.t 29) (.seq (.seq (.reg [O1 31 .mv 6, Ol 32 (.bin .lss) [.t 31, ci 1], O1 33 .mv 32, Og 34 (.fadr 1) [.t 7] 33 false, Og 35 .ld1 [.t 34] 33 false, Og 36 .mv [.t 6] 33 false, Og 37 (.bin .sub) [.t 36, ci 1] 33 false, Og 38 (.bin .neq) [.t 35, .t 37] 33 false, Ol 39 .pick [.t 33, cb true, .t 38], O1 40 .mv 39, Og 41 (.fadr 2) [.t 7] 40 false, Og 42 .ld1 [.t 41] 40 false, Og 43 (.bin .neq) [.t 42, ci 0] 40 false, Ol 44 .pick [.t 40, cb true, .t 43]]) (.cond (.t 44) (.seq (.reg [O0 45 .bsle, O1 4 .mv 45]) .ret) .skip)) (.reg [O1 46 .mv 5, O1 47 .mv 6, Ol 48 (.bin .sub) [.t 47, ci 1], O2 49 (.iadr 1) 46 48, O1 50 .ld1 49, Ol 51 (.bin .add) [ci 1, .t 50], O1 8 .mv 51])) (.seq (.reg [Ol 53 (.bin .eql) [.t 24, ci 2], O1 52 .mv 53]) (.cond (.t 52) (.seq (.seq (.reg [O1 54 .mv 6, Ol 55 (.bin .lss) [.t 54, ci 2], O1 56 .mv 55, Og 57 (.fadr 2) [.t 7] 56 false, Og 58 .ld1 [.t 57] 56 false, Og 59 .mv [.t 6] 56 false, Og 60 (.bin .sub) [.t 59, ci 1] 56 false, Og 61 (.bin .neq) [.t 58, .t 60] 56 false, Ol 62 .pick [.t 56, cb true, .t 61]]) (.cond (.t 62) (.seq (.reg [O0 63 .bsle, O1 4 .mv 63]) .ret) .skip)) (.seq (.reg [O1 64 .mv 6, Ol 65 (.bin .sub) [.t 64, ci 1], O1 66 .mv 5, O1 67 .mv 6, Ol 68 (.bin .sub) [.t 67, ci 1], O2 69 (.iadr 1) 66 68, O1 70 .ld1 69, O2 71 (.bin .sub) 65 70, O1 9 .mv 71]) (.seq (.seq (.reg [O1 72 .mv 9, Ol 73 (.bin .lss) [.t 72, ci 0], O1 74 .mv 73, Og 75 (.fadr 1) [.t 7] 74 false, Og 76 .ld1 [.t 75] 74 false, Og 77 .mv [.t 9] 74 false, Og 78 (.bin .neq) [.t 76, .t 77] 74 false, Ol 79 .pick [.t 74, cb true, .t 78]]) (.cond (.t 79) (.seq (.reg [O0 80 .bsle, O1 4 .mv 80]) .ret) .skip)) (.drw [O1 81 .mv 5, O1 82 .mv 6, Ol 83 (.bin .sub) [.t 82, ci 1], O2 84 (.iadr 1) 81 83, O1 85 .ld1 84, Ol 86 (.bin .add) [ci 1, .t 85], O1 87 .mv 5, O1 88 .mv 9, O2 89 (.iadr 1) 87 88, O1 90 .ld1 89, O2 91 (.bin .add) 86 90, O1 8 .mv 91] (unB [0, 0, 2, 7, 15, 31, 0, 0, 192, 448, 1023, 2047] 0) true true)))) (.seq (.reg [O1 25 (.fadr 2) 7, O1 26 .ld1 25, Ol 27 (.bin .neq) [.t 26, ci 0]]) (.cond (.t 27) (.seq (.reg [O0 28 .bsle, O1 4 .mv 28]) .ret) .skip)))))))) (.reg [O1 92 .mv 5, O1 93 .mv 8, O1 94 (.bslv 1) 93, O2 95 (.app 1 8) 92 94, O1 5 .mv 95]))))) (.reg [O1 15 .mv 6, Ol 16 (.bin .add) [.t 15, ci 1], O1 6 .mv 16])))))) (.seq (.reg [O1 96 .mv 5, O1 4 .mv 96]) .ret))))
theorem b_spec_l2Sizes : Body Tryd.prog 52 97 c_spec_l2Sizes [(.t 4)] := body_mk Tryd.func52 (by kernel_rfl) (by decide)
def sizesL (l : List NodeD) (ps : List Int) : List Int := (sizes l ps l.length).getD []
def RSizes (xs : List AV) (r : AV) (objs : List AObj) : Prop := ∃ l ps, xs = [.val (nodeRows l), .val (ints ps)] ∧ ps.length = l.length ∧ l.length ≤ 31 ∧ r = .ref 0 0 (sizesL l ps).length ∧ objs = [.arr 1 (ints (sizesL l ps))]
theorem node_at {l : List NodeD} {i : Nat} (h : i < l.length) : (nodeRows l)[((i : Nat) : Int).toNat]? = some (nodeRow (l.getD i default)) := map_at h
@[simp] theorem length_nodeRows (l : List NodeD) : (nodeRows l).length = l.length := by simp [nodeRows]
theorem ints_prev {l : List Int} {i : Nat} (h : i ≤ l.length) (h0 : 0 < i) : (ints l)[0 + (((i : Nat) : Int) - 1).toNat]? = some [.int .i64 (l.getD (i - 1) 0)] := by
  have e : (((i : Nat) : Int) - 1).toNat = i - 1 := by omega
  rw [Nat.zero_add, e]
  have hx : i - 1 < l.length := by omega
  simp [ints, List.getElem?_eq_getElem hx, List.getD_eq_getElem?_getD]
theorem ints_atJ {l : List Int} {x : Int} (h0 : 0 ≤ x) (h1 : x < l.length) : (ints l)[0 + x.toNat]? = some [.int .i64 (l.getD x.toNat 0)] := by
  rw [Nat.zero_add]
  have hx : x.toNat < l.length := by omega
  simp [ints, List.getElem?_eq_getElem hx, List.getD_eq_getElem?_getD]
theorem app_int (l : List Int) (x : Int) (i : Nat) (h : i = l.length) : List.take i (ints l) ++ [[.int .i64 x]] = ints (l ++ [x]) := by
  rw [List.take_of_length_le (by simp [ints]; omega)]
  simp [ints]
theorem sizes_fail {l : List NodeD} {ps : List Int} {i : Nat} {out : List Int} (hi : i < l.length) (h : sizes l ps i = some out) (hf : sizeAt (l.getD i default) (ps.getD i 0) i out = none) : sizesL l ps = [] := by
  have h1 : sizes l ps (i + 1) = none := by simp only [sizes, h, hf, Option.map_none]
  unfold sizesL
  rw [sizes_none h1 l.length (by omega)]
  rfl
theorem sizes_next {l : List NodeD} {ps : List Int} {i : Nat} {out : List Int} {s : Int} (h : sizes l ps i = some out) (hs : sizeAt (l.getD i default) (ps.getD i 0) i out = some s) : sizes l ps (i + 1) = some (out ++ [s]) := by
  simp only [sizes, h, hs, Option.map_some]
set_option maxHeartbeats 2000000 in
theorem s_spec_l2Sizes : PureSound Tryd.prog 52 RSizes := by
  have hR : Rely Tryd.prog (ctxOf []) := rely_nil mixed
  refine pure_of_aw b_spec_l2Sizes ?_
  rintro xs r objs ⟨l, ps, rfl, hp, hl, rfl, rfl⟩ -
  have hln := length_nodeRows l
  have hlp := length_ints ps
  refine ⟨by simp, vc2_sound hR _ _ _ _ _ ?_⟩
  conv => whnf
  repeat' ((first | (refine And.intro (fun hb => ?_) (fun hb => ?_) <;> ((try simp only [SB, reduceCtorEq] at hb); try (exfalso; omega))) | refine G2 ?_ | rw [ints_at (by omega)] | rw [ints_at0 (by omega)] | rw [ints_at' (by omega) (by omega)] | refine G1 ?_ | fail) <;> conv => whnf)
  refine Lp.intro (α := Nat × List Int) (fun a => a.1 ≤ l.length ∧ sizes l ps a.1 = some a.2 ∧ a.2.length = a.1) (fun a => l.length - a.1) (fun a => [(0, .val (nodeRows l)), (1, .val (ints ps)), (5, .ref 0 0 a.1), (6, .int .i64 a.1)]) (fun a => [some (.arr 1 (ints a.2))]) ?_ ?_
  · refine ⟨(0, []), ⟨by simp, rfl, rfl⟩, [none], rfl, rfl, And.intro rfl trivial, ?_⟩
    repeat' (first
      | exact trivial
      | refine ⟨?_, ?_⟩
      | fail)
    all_goals first
      | with_reducible rfl
      | (conv => whnf
         try left
         conv => lhs; whnf
         first
           | rfl
           | exact congrArg (AV.int .i64) (by omega)
           | skip)
  · rintro ⟨i, out⟩ ⟨hi, hsz, hlen⟩
    dsimp only at hi hsz hlen ⊢
    have hlo := length_ints out
    obtain ⟨_, hbnd⟩ := sizes_bound i out hsz
    have hprev : 0 < i → 1 ≤ out.getD (i - 1) 0 ∧ out.getD (i - 1) 0 ≤ i := fun h0 => by
      have := hbnd (i - 1) (by omega)
      omega
    have hall : ∀ x : Int, 0 ≤ x → x < i → 1 ≤ out.getD x.toNat 0 ∧ out.getD x.toNat 0 ≤ i := fun x h0 h1 => by
      have := hbnd x.toNat (by omega)
      omega
    refine vc2_sound hR _ _ _ _ _ ?_
    by_cases h0 : 0 < i
    · have hp1 := hprev h0
      have hp2 := hall ((i : Int) - 1 - out.getD (i - 1) 0)
      conv => whnf
      repeat' ((first | (refine And.intro (fun hb => ?_) (fun hb => ?_) <;> ((try simp only [SB, reduceCtorEq] at hb); try (exfalso; omega))) | refine G2 ?_ | rw [ints_at (by omega)] | rw [ints_at0 (by omega)] | rw [ints_at' (by omega) (by omega)] | refine G1 ?_ | rw [node_at (by omega)] | rw [ints_prev (by omega) (by omega)] | rw [ints_atJ (by omega) (by omega)] | fail) <;> conv => whnf)
      all_goals first
        | (have e := sizes_fail (by omega) hsz (by simp only [sizeAt]; (repeat' split) <;> first | rfl | omega)
           rw [e]
           refine ⟨.inl rfl, ?_⟩
           conv => whnf
           exact ⟨[none], ⟨rfl, And.intro rfl trivial⟩, ⟨rfl, rfl, rfl⟩, rfl, by simp [AObj.nov, ints]⟩)
        | (have hil : i = l.length := by omega
           have e : sizesL l ps = out := by unfold sizesL; rw [← hil, hsz]; rfl
           rw [e]
           refine ⟨.inl rfl, ?_⟩
           conv => whnf
           refine ⟨[some 0], ⟨rfl, And.intro (And.intro rfl rfl) trivial⟩, ?_, rfl, by simp [AObj.nov, ints_nov]⟩
           show AV.ref 0 0 i = AV.ref 0 0 out.length
           rw [hlen])
        | skip
      · refine ⟨(i + 1, out ++ [1 + out.getD (i - 1) 0]), ⟨by dsimp only; omega, sizes_next hsz (by simp only [sizeAt]; (repeat' split) <;> first | rfl | omega), by simp [hlen]⟩, by dsimp only; omega, [some 2], rfl, rfl, And.intro (And.intro rfl (app_int out _ i hlen.symm)) trivial, ?_⟩
        repeat' (first
          | exact trivial
          | refine ⟨?_, ?_⟩
          | fail)
        all_goals first
          | with_reducible rfl
          | (conv => whnf
             try left
             conv => lhs; whnf
             first
               | rfl
               | exact congrArg (AV.int .i64) (by omega)
               | skip)
      · refine ⟨(i + 1, out ++ [1 + out.getD (i - 1) 0 + out.getD ((i : Int) - 1 - out.getD (i - 1) 0).toNat 0]), ⟨by dsimp only; omega, sizes_next hsz (by simp only [sizeAt]; (repeat' split) <;> first | rfl | omega), by simp [hlen]⟩, by dsimp only; omega, [some 2], rfl, rfl, And.intro (And.intro rfl (app_int out _ i hlen.symm)) trivial, ?_⟩
        repeat' (first
          | exact trivial
          | refine ⟨?_, ?_⟩
          | fail)
        all_goals first
          | with_reducible rfl
          | (conv => whnf
             try left
             conv => lhs; whnf
             first
               | rfl
               | exact congrArg (AV.int .i64) (by omega)
               | skip)
      · refine ⟨(i + 1, out ++ [1]), ⟨by dsimp only; omega, sizes_next hsz (by simp only [sizeAt]; (repeat' split) <;> first | rfl | omega), by simp [hlen]⟩, by dsimp only; omega, [some 2], rfl, rfl, And.intro (And.intro rfl (app_int out _ i hlen.symm)) trivial, ?_⟩
        repeat' (first
          | exact trivial
          | refine ⟨?_, ?_⟩
          | fail)
        all_goals first
          | with_reducible rfl
          | (conv => whnf
             try left
             conv => lhs; whnf
             first
               | rfl
               | exact congrArg (AV.int .i64) (by omega)
               | skip)
    · conv => whnf
      repeat' ((first | (refine And.intro (fun hb => ?_) (fun hb => ?_) <;> ((try simp only [SB, reduceCtorEq] at hb); try (exfalso; omega))) | refine G2 ?_ | rw [ints_at (by omega)] | rw [ints_at0 (by omega)] | rw [ints_at' (by omega) (by omega)] | refine G1 ?_ | rw [node_at (by omega)] | fail) <;> conv => whnf)
      all_goals first
        | (have e := sizes_fail (by omega) hsz (by simp only [sizeAt]; (repeat' split) <;> first | rfl | omega)
           rw [e]
           refine ⟨.inl rfl, ?_⟩
           conv => whnf
           exact ⟨[none], ⟨rfl, And.intro rfl trivial⟩, ⟨rfl, rfl, rfl⟩, rfl, by simp [AObj.nov, ints]⟩)
        | (have hil : i = l.length := by omega
           have e : sizesL l ps = out := by unfold sizesL; rw [← hil, hsz]; rfl
           rw [e]
           refine ⟨.inl rfl, ?_⟩
           conv => whnf
           refine ⟨[some 0], ⟨rfl, And.intro (And.intro rfl rfl) trivial⟩, ?_, rfl, by simp [AObj.nov, ints_nov]⟩
           show AV.ref 0 0 i = AV.ref 0 0 out.length
           rw [hlen])
        | skip
      · refine ⟨(i + 1, out ++ [1]), ⟨by dsimp only; omega, sizes_next hsz (by simp only [sizeAt]; (repeat' split) <;> first | rfl | omega), by simp [hlen]⟩, by dsimp only; omega, [some 2], rfl, rfl, And.intro (And.intro rfl (app_int out _ i hlen.symm)) trivial, ?_⟩
        repeat' (first
          | exact trivial
          | refine ⟨?_, ?_⟩
          | fail)
        all_goals first
          | with_reducible rfl
          | (conv => whnf
             try left
             conv => lhs; whnf
             first
               | rfl
               | exact congrArg (AV.int .i64) (by omega)
               | skip)
def c_impl_begins : ICode := (.seq (.reg [Ol 4 .mv [.c .snil], Ol 5 .mv [cb false]]) (.seq (.seq (.reg [O1 9 .mv 0, O1 10 .len 9, Ol 11 (.call 39) [.t 10, ci 1, ci 31], O1 12 .not 11]) (.cond (.t 12) (.seq (.reg [Ol 4 .mv [.c .snil], Ol 5 .mv [cb false]]) .ret) .skip)) (.seq (.reg [O1 13 .mv 0, O1 14 .len 13, O2 15 (.mks 1 8 [(.int .i64 0)]) 14 14, O1 6 .mv 15]) (.seq (.seq (.reg [O1 16 .mv 0, O1 17 .len 16, Ol 18 .mv [ci 0]]) (.block 0 (.loop (.seq (.reg [O2 19 (.bin .lss) 18 17]) (.seq (.cond (.t 19) .skip (.exit 0)) (.seq (.block 1 (.seq (.reg [O1 20 .mv 18, O2 21 (.iadr 3) 16 18, O1 22 (.ldn 3) 21, O0 8 (.alc [(.int .i64 0), (.int .i64 0), (.int .i64 0)]), O1 7 .mv 20, S2 (.st 3) 8 22]) (.seq (.reg [O1 23 .mv 6, O1 24 .mv 7, O1 25 .mv 7, O2 26 (.iadr 1) 23 24, S2 (.st 1) 26 25]) (.seq (.reg [O1 27 .mv 1, O1 28 (.ldn 3) 8, O2 29 .dyn 27 28]) (.block 2 (.seq (.reg [Ol 31 (.bin .eql) [.t 29, ci 0], O1 30 .mv 31]) (.cond (.t 30) (.exit 1) (.seq (.reg [Ol 33 (.bin .eql) [.t 29, ci 1], O1 32 .mv 33]) (.cond (.t 32) (.seq (.seq (.reg [O1 34 .mv 7, Ol 35 (.bin .eql) [.t 34, ci 0], O1 36 .mv 35, Og 37 (.fadr 1) [.t 8] 36 false, Og 38 .ld1 [.t 37] 36 false, Og 39 .mv [.t 7] 36 false, Og 40 (.bin .sub) [.t 39, ci 1] 36 false, Og 41 (.bin .neq) [.t 38, .t 40] 36 false, Ol 42 .pick [.t 36, cb true, .t 41], O1 43 .mv 42, Og 44 (.fadr 2) [.t 8] 43 false, Og 45 .ld1 [.t 44] 43 false, Og 46 (.bin .neq) [.t 45, ci 0] 43 false, Ol 47 .pick [.t 43, cb true, .t 46]]) (.cond (.t 47) (.seq (.reg [Ol 4 .mv [.c .snil], Ol 5 .mv [cb false]]) .ret) .skip)) (.reg [O1 48 .mv 6, O1 49 .mv 7, O1 50 .mv 6, O1 51 (.fadr 1) 8, O1 52 .ld1 51, O2 53 (.iadr 1) 50 52, O1 54 .ld1 53, O2 55 (.iadr 1) 48 49, S2 (.st 1) 55 54])) (.seq (.reg [Ol 57 (.bin .eql) [.t 29, ci 2], O1 56 .mv 57]) (.cond (.t 56) (.seq (.seq (.drw [O1 58 .mv 7, Ol 59 (.bin .eql) [.t 58, ci 0], O1 60 .mv 59, Og 61 (.fadr 2) [.t 8] 60 false, Og 62 .ld1 [.t 61] 60 false, Og 63 .mv [.t 7] 60 false, Og 64 (.bin .sub) [.t 63, ci 1] 60 false, Og 65 (.bin .neq) [.t 62, .t 64] 60 false, Ol 66 .pick [.t 60, cb true, .t 65], O1 67 .mv 66, Og 68 (.fadr 1) [.t 8] 67 false, Og 69 .ld1 [.t 68] 67 false, Og 70 .mv [.t 6] 67 false, Og 71 .mv [.t 7] 67 false, Og 72 (.bin .sub) [.t 71, ci 1] 67 false, Og 73 (.iadr 1) [.t 70, .t 72] 67 false, Og 74 .ld1 [.t 73] 67 false, Og 75 (.bin .sub) [.t 74, ci 1] 67 false, Og 76 (.bin .neq) [.t 69, .t 75] 67 false, Ol 77 .pick [.t 67, cb true, .t 76], O1 78 .mv 77, Og 79 (.fadr 1) [.t 8] 78 false, Og 80 .ld1 [.t 79] 78 false, Og 81 (.bin .lss) [.t 80, ci 0] 78 false, Ol 82 .pick [.t 78, cb true, .t 81]] (unB [0, 1, 3, 7, 15, 7, 39, 127, 255, 511, 1023, 2047, 1023, 1023, 9215, 29695, 62463, 127999, 262143, 524287, 1048575, 2097151, 4194303, 8388607, 16777215] 0) true true) (.cond (.t 82) (.seq (.reg [Ol 4 .mv [.c .snil], Ol 5 .mv [cb false]]) .ret) .skip)) (.reg [O1 83 .mv 6, O1 84 .mv 7, O1 85 .mv 6, O1 86 (.fadr 1) 8, O1 87 .ld1 86, O2 88 (.iadr 1) 85 87, O1 89 .ld1 88, O2 90 (.iadr 1) 83 84, S2 (.st 1) 90 89])) (.seq (.reg [Ol 4 .mv [.c .snil], Ol 5 .mv [cb false]]) .ret)))))))))))) (.reg [Ol 91 (.bin .add) [.t 18, ci 1], O1 18 .mv 91]))))))) (.seq (.drw [O1 92 .mv 6, O1 93 .mv 6, O1 94 .mv 0, O1 95 .len 94, Ol 96 (.bin .sub) [.t 95, ci 1], O2 97 (.iadr 1) 93 96, O1 98 .ld1 97, Ol 99 (.bin .eql) [.t 98, ci 0], O1 4 .mv 92, O1 5 .mv 99] (unB [0, 0, 0, 4, 12, 30, 62, 126, 1, 511] 0) true true) .ret)))))
theorem b_impl_begins : Body Tryd.prog 83 100 c_impl_begins [(.t 4), (.t 5)] := body_mk Tryd.func83 (by kernel_rfl) (by decide)
def c_impl_isTree : ICode := (.seq (.reg [Ol 4 .mv [cb false]]) (.seq (.reg [O1 8 .mv 0, O1 9 .mv 1, O2 10 (.call 83) 8 9, O1 7 .mv 10, O1 11 (.ext 0) 7, O1 12 (.ext 1) 7, O1 5 .mv 11, O1 6 .mv 12]) (.seq (.reg [O1 13 .mv 6, O1 4 .mv 13]) .ret)))
theorem b_impl_isTree : Body Tryd.prog 72 14 c_impl_isTree [(.t 4)] := body_mk Tryd.func72 (by kernel_rfl) (by decide)
def c_impl_ExprOk : ICode := (.seq (.reg [Ol 2 .mv [cb false]]) (.seq (.reg [O1 3 .mv 0, Ol 4 (.call 72) [.t 3, .c (.fn 62 [])], O1 2 .mv 4]) .ret))
theorem b_impl_ExprOk : Body Tryd.prog 60 5 c_impl_ExprOk [(.t 2)] := body_mk Tryd.func60 (by kernel_rfl) (by decide)
def beginAt (n : NodeD) (i : Nat) (bs : List Int) : Option Int :=
  if partsE n = 0 then some i
  else if partsE n = 1 then (if i = 0 ∨ n.a ≠ i - 1 ∨ n.b ≠ 0 then none else some (bs.getD n.a.toNat 0))
  else if partsE n = 2 then (if i = 0 ∨ n.b ≠ i - 1 ∨ n.a ≠ bs.getD (i - 1) 0 - 1 ∨ n.a < 0 then none else some (bs.getD n.a.toNat 0))
  else none
def begs (l : List NodeD) : Nat → Option (List Int)
  | 0 => some []
  | i + 1 => match begs l i with
    | some bs => (beginAt (l.getD i default) i bs).map fun s => bs ++ [s]
    | none => none
theorem begs_none {l : List NodeD} {i : Nat} (h : begs l i = none) : ∀ j, i ≤ j → begs l j = none
  | 0, hj => by have : i = 0 := by omega
                subst this; exact h
  | j + 1, hj => by
    by_cases he : i = j + 1
    · subst he; exact h
    · simp only [begs, begs_none h j (by omega)]
theorem begs_bound {l : List NodeD} : ∀ (i : Nat) (bs : List Int), begs l i = some bs → bs.length = i ∧ ∀ j, j < i → 0 ≤ bs.getD j 0 ∧ bs.getD j 0 ≤ j
  | 0, bs, h => by simp [begs] at h; subst h; simp
  | i + 1, bs, h => by
    simp only [begs] at h
    split at h
    · rename_i o ho
      obtain ⟨s, hs, rfl⟩ := Option.map_eq_some_iff.1 h
      obtain ⟨h1, h2⟩ := begs_bound i o ho
      refine ⟨by simp [h1], fun j hj => ?_⟩
      by_cases hji : j < i
      · have := h2 j hji
        rw [List.getD_eq_getElem?_getD, List.getElem?_append, if_pos (by omega), ← List.getD_eq_getElem?_getD]
        exact this
      · have hj' : j = i := by omega
        subst hj'
        have e : (o ++ [s]).getD j 0 = s := by
          rw [List.getD_eq_getElem?_getD, List.getElem?_append, if_neg (by omega)]
          simp [h1]
        rw [e]
        unfold beginAt at hs
        split at hs
        · cases hs; omega
        · split at hs
          · split at hs
            · cases hs
            · cases hs
              have := h2 (l.getD j default).a.toNat (by omega)
              omega
          · split at hs
            · split at hs
              · cases hs
              · cases hs
                have a1 := h2 (j - 1) (by omega)
                have := h2 (l.getD j default).a.toNat (by omega)
                omega
            · cases hs
    · cases h
def begsL (l : List NodeD) : Option (List Int) := if 1 ≤ l.length ∧ l.length ≤ 31 then begs l l.length else none
def begR : Option (List Int) → AV
  | none => .tup [.snil, .bool false]
  | some bs => .tup [.ref 0 0 bs.length, .bool (decide (bs.getD (bs.length - 1) 0 = 0))]
def begO : Option (List Int) → List AObj
  | none => []
  | some bs => [.arr 1 (ints bs)]
def RBegins (xs : List AV) (r : AV) (objs : List AObj) : Prop := ∃ l, xs = [.val (nodeRows l), .fn 62 []] ∧ r = begR (begsL l) ∧ objs = begO (begsL l)
theorem begsL_fail {l : List NodeD} {i : Nat} {bs : List Int} (hi : i < l.length) (h : begs l i = some bs) (hf : beginAt (l.getD i default) i bs = none) : begsL l = none := by
  have h1 : begs l (i + 1) = none := by simp only [begs, h, hf, Option.map_none]
  unfold begsL
  rw [begs_none h1 l.length (by omega)]
  split <;> rfl
theorem begs_next {l : List NodeD} {i : Nat} {bs : List Int} {s : Int} (h : begs l i = some bs) (hs : beginAt (l.getD i default) i bs = some s) : begs l (i + 1) = some (bs ++ [s]) := by
  simp only [begs, h, hs, Option.map_some]
theorem setB_at {X : List Int} {i : Nat} {r : List AV} (h : i < X.length) : ((ints X).set (0 + ((i : Nat) : Int).toNat) r)[0 + ((i : Nat) : Int).toNat]? = some r := by
  rw [Nat.zero_add, Int.toNat_natCast]
  rw [List.getElem?_set_self (by simp [ints]; omega)]
theorem setB_ne {bs Z : List Int} {i : Nat} {r : List AV} {x : Int} (h0 : 0 ≤ x) (h1 : x < i) (h : i = bs.length) : ((ints (bs ++ Z)).set (0 + ((i : Nat) : Int).toNat) r)[0 + x.toNat]? = some [.int .i64 (bs.getD x.toNat 0)] := by
  rw [Nat.zero_add, Nat.zero_add, Int.toNat_natCast]
  rw [List.getElem?_set_ne (by omega)]
  have hx : x.toNat < bs.length := by omega
  simp [ints, List.getElem?_append, hx, List.getD_eq_getElem?_getD]
theorem setB_ne' {bs Z : List Int} {i : Nat} {r : List AV} (h0 : 0 < i) (h : i = bs.length) : ((ints (bs ++ Z)).set (0 + ((i : Nat) : Int).toNat) r)[0 + (((i : Nat) : Int) - 1).toNat]? = some [.int .i64 (bs.getD (i - 1) 0)] := by
  have e : (((i : Nat) : Int) - 1).toNat = i - 1 := by omega
  have := setB_ne (bs := bs) (Z := Z) (i := i) (r := r) (x := (i : Int) - 1) (by omega) (by omega) h
  rw [this, e]
theorem fillB_at {bs : List Int} {i n : Nat} {v : Int} (h : i = bs.length) (hi : i < n) : (ints (bs ++ List.replicate (n - i) 0)).set (0 + ((i : Nat) : Int).toNat) [.int .i64 v] = ints ((bs ++ [v]) ++ List.replicate (n - (i + 1)) 0) := by
  rw [Nat.zero_add, Int.toNat_natCast]
  obtain ⟨m, rfl⟩ : ∃ m, n = i + 1 + m := ⟨n - (i + 1), by omega⟩
  subst h
  have e : bs.length + 1 + m - bs.length = m + 1 := by omega
  have e2 : bs.length + 1 + m - (bs.length + 1) = m := by omega
  rw [e, e2]
  simp [ints, List.replicate_succ]
set_option maxHeartbeats 4000000 in
theorem s_impl_begins : PureSound Tryd.prog 83 RBegins := by
  have hR : Rely Tryd.prog (ctxOf [(39, .pure RIn), (62, .pure RPartsE)]) :=
    rely_cons b_impl_inRange.has s_impl_inRange (rely_cons b_impl_exprParts.has s_impl_exprParts (rely_nil mixed))
  refine pure_of_aw b_impl_begins ?_
  rintro xs r objs ⟨l, rfl, rfl, rfl⟩ -
  have hln := length_nodeRows l
  refine ⟨by simp, vc2_sound hR _ _ _ _ _ ?_⟩
  conv => whnf
  repeat' ((first | (refine And.intro (fun hb => ?_) (fun hb => ?_) <;> ((try simp only [SB, reduceCtorEq] at hb); try (exfalso; omega))) | refine G2 ?_ | rw [ints_at (by omega)] | rw [ints_at0 (by omega)] | rw [ints_at' (by omega) (by omega)] | refine G1 ?_ | refine ⟨_, _, RIn_mk, ?_⟩ | fail) <;> conv => whnf)
  rotate_left
  · have e : begsL l = none := by unfold begsL; rw [if_neg (by omega)]
    rw [e]
    refine ⟨.inl rfl, ?_⟩
    conv => whnf
    refine ⟨[], ⟨rfl, trivial⟩, ?_, rfl, rfl⟩
    repeat' (first | exact trivial | refine And.intro ?_ ?_)
    all_goals
      conv => whnf
      left
      conv => lhs; whnf
  have hlen : 1 ≤ l.length ∧ l.length ≤ 31 := by omega
  refine Lp.intro (α := Nat × List Int) (fun a => a.1 ≤ l.length ∧ begs l a.1 = some a.2 ∧ a.2.length = a.1) (fun a => l.length - a.1)
    (fun a => [(0, .val (nodeRows l)), (1, .fn 62 []), (6, .ref 0 0 l.length), (16, .val (nodeRows l)), (17, .int .i64 l.length), (18, .int .i64 a.1)]) (fun a => [some (.arr 1 (ints (a.2 ++ List.replicate (l.length - a.1) 0)))]) ?_ ?_
  · refine ⟨(0, []), ⟨by simp, rfl, rfl⟩, [some 0], rfl, rfl, And.intro (And.intro rfl ?_) trivial, ?_⟩
    · simp [ints, nodeRows]
    · repeat' (first
        | exact trivial
        | refine ⟨?_, ?_⟩
        | fail)
      all_goals first
        | with_reducible rfl
        | (conv => whnf
           try left
           conv => lhs; whnf
           first
             | rfl
             | exact congrArg (AV.int .i64) (by omega)
             | skip)
      simp [nodeRows]
  · rintro ⟨i, bs⟩ ⟨hi, hbs, hlb⟩
    dsimp only at hi hbs hlb ⊢
    have hX : (bs ++ List.replicate (l.length - i) 0).length = l.length := by simp; omega
    have hXi := length_ints (bs ++ List.replicate (l.length - i) 0)
    obtain ⟨_, hbnd⟩ := begs_bound i bs hbs
    have hp1 : 0 < i → 0 ≤ bs.getD (i - 1) 0 ∧ bs.getD (i - 1) 0 ≤ i := fun h0 => by
      have := hbnd (i - 1) (by omega)
      omega
    refine vc2_sound hR _ _ _ _ _ ?_
    conv => whnf
    repeat' ((first | (refine And.intro (fun hb => ?_) (fun hb => ?_) <;> ((try simp only [SB, reduceCtorEq] at hb); try (exfalso; omega))) | refine G2 ?_ | rw [ints_at (by omega)] | rw [ints_at0 (by omega)] | rw [ints_at' (by omega) (by omega)] | refine G1 ?_ | rw [node_at (by omega)] | refine ⟨_, _, RPartsE_mk (n := l.getD i default), ?_⟩ | rw [ints_atJ (by omega) (by omega)] | rw [setB_at (by omega)] | rw [setB_ne' (by omega) (by omega)] | rw [setB_ne (by omega) (by omega) (by omega)] | fail) <;> conv => whnf)
    all_goals first
      | (have e := begsL_fail (by omega) hbs (by simp only [beginAt]; (repeat' split) <;> first | rfl | omega)
         rw [e]
         refine ⟨.inl rfl, ?_⟩
         conv => whnf
         refine ⟨[], ⟨rfl, trivial⟩, ?_, rfl, rfl⟩
         repeat' (first | exact trivial | refine And.intro ?_ ?_)
         all_goals
           conv => whnf
           left
           conv => lhs; whnf
         done)
      | skip
    · refine ⟨(i + 1, bs ++ [(i : Int)]), ⟨by dsimp only; omega, begs_next hbs (by simp only [beginAt]; (repeat' split) <;> first | rfl | omega), by simp [hlb]⟩, by dsimp only; omega, [some 0], rfl, rfl, And.intro (And.intro rfl ?_) trivial, ?_⟩
      · exact fillB_at hlb.symm (by omega)
      · repeat' (first
          | exact trivial
          | refine ⟨?_, ?_⟩
          | fail)
        all_goals first
          | with_reducible rfl
          | (conv => whnf
             try left
             conv => lhs; whnf
             first
               | rfl
               | exact congrArg (AV.int .i64) (by omega)
               | skip)
    · refine ⟨(i + 1, bs ++ [bs.getD (l.getD i default).a.toNat 0]), ⟨by dsimp only; omega, begs_next hbs (by simp only [beginAt]; (repeat' split) <;> first | rfl | omega), by simp [hlb]⟩, by dsimp only; omega, [some 0], rfl, rfl, And.intro (And.intro rfl ?_) trivial, ?_⟩
      · exact (List.set_set _ ..).trans (fillB_at hlb.symm (by omega))
      · repeat' (first
          | exact trivial
          | refine ⟨?_, ?_⟩
          | fail)
        all_goals first
          | with_reducible rfl
          | (conv => whnf
             try left
             conv => lhs; whnf
             first
               | rfl
               | exact congrArg (AV.int .i64) (by omega)
               | skip)
    · refine ⟨(i + 1, bs ++ [bs.getD (l.getD i default).a.toNat 0]), ⟨by dsimp only; omega, begs_next hbs (by simp only [beginAt]; (repeat' split) <;> first | rfl | omega), by simp [hlb]⟩, by dsimp only; omega, [some 0], rfl, rfl, And.intro (And.intro rfl ?_) trivial, ?_⟩
      · exact (List.set_set _ ..).trans (fillB_at hlb.symm (by omega))
      · repeat' (first
          | exact trivial
          | refine ⟨?_, ?_⟩
          | fail)
        all_goals first
          | with_reducible rfl
          | (conv => whnf
             try left
             conv => lhs; whnf
             first
               | rfl
               | exact congrArg (AV.int .i64) (by omega)
               | skip)
    all_goals
      have hil : i = l.length := by omega
      have e : begsL l = some bs := by unfold begsL; rw [if_pos hlen, ← hil, hbs]
      have e2 : bs ++ List.replicate (l.length - i) 0 = bs := by rw [hil]; simp
      have e3 : (((nodeRows l).length : Int) - 1).toNat = bs.length - 1 := by omega
      rw [e2, e3] at hb
      rw [e]
      refine ⟨.inl rfl, ?_⟩
      conv => whnf
      refine ⟨[some 0], ⟨rfl, And.intro (And.intro rfl (congrArg ints e2)) trivial⟩, ?_, rfl, by simp [begO, AObj.nov, ints_nov]⟩
      refine And.intro (congrArg (AV.ref 0 0) (by omega)) (And.intro (.inl (congrArg AV.bool ?_)) trivial)
      rw [List.getD_eq_getElem?_getD] at hb
      simp [hb]
def treeE (l : List NodeD) : Bool := match begsL l with
  | none => false
  | some bs => decide (bs.getD (bs.length - 1) 0 = 0)
def RTreeE (xs : List AV) (r : AV) (objs : List AObj) : Prop := ∃ l, xs = [.val (nodeRows l), .fn 62 []] ∧ r = .bool (treeE l) ∧ objs = []
theorem RTreeE_mk {l : List NodeD} : RTreeE [.val (nodeRows l), .fn 62 []] (.bool (treeE l)) [] := ⟨l, rfl, rfl, rfl⟩
theorem RBegins_none {l : List NodeD} (h : begsL l = none) : RBegins [.val (nodeRows l), .fn 62 []] (.tup [.snil, .bool false]) [] := ⟨l, rfl, by rw [h]; rfl, by rw [h]; rfl⟩
theorem RBegins_some {l : List NodeD} {bs : List Int} (h : begsL l = some bs) : RBegins [.val (nodeRows l), .fn 62 []] (.tup [.ref 0 0 bs.length, .bool (decide (bs.getD (bs.length - 1) 0 = 0))]) [.arr 1 (ints bs)] := ⟨l, rfl, by rw [h]; rfl, by rw [h]; rfl⟩
theorem s_impl_isTree : PureSound Tryd.prog 72 RTreeE := by
  have hR : Rely Tryd.prog (ctxOf [(83, .pure RBegins)]) := rely_cons b_impl_begins.has s_impl_begins (rely_nil mixed)
  refine pure_of_aw b_impl_isTree ?_
  rintro xs r objs ⟨l, rfl, rfl, rfl⟩ -
  refine ⟨by simp, vc2_sound hR _ _ _ _ _ ?_⟩
  cases h : begsL l with
  | none =>
    conv => whnf
    repeat' ((first | (refine And.intro (fun hb => ?_) (fun hb => ?_) <;> ((try simp only [SB, reduceCtorEq] at hb); try (exfalso; omega))) | refine G2 ?_ | rw [ints_at (by omega)] | rw [ints_at0 (by omega)] | rw [ints_at' (by omega) (by omega)] | refine G1 ?_ | refine ⟨_, _, RBegins_none h, ?_⟩ | fail) <;> conv => whnf)
    refine ⟨.inl rfl, ?_⟩
    conv => whnf
    refine ⟨[], ⟨rfl, trivial⟩, ?_, rfl, rfl⟩
    conv => whnf
    left
    conv => lhs; whnf
    simp [treeE, h]
  | some bs =>
    conv => whnf
    repeat' ((first | (refine And.intro (fun hb => ?_) (fun hb => ?_) <;> ((try simp only [SB, reduceCtorEq] at hb); try (exfalso; omega))) | refine G2 ?_ | rw [ints_at (by omega)] | rw [ints_at0 (by omega)] | rw [ints_at' (by omega) (by omega)] | refine G1 ?_ | refine ⟨_, _, RBegins_some h, ?_⟩ | fail) <;> conv => whnf)
    all_goals
      rw [List.getD_eq_getElem?_getD] at hb
      refine ⟨.inl rfl, ?_⟩
      conv => whnf
      refine ⟨[], ⟨rfl, trivial⟩, ?_, rfl, rfl⟩
      conv => whnf
      left
      conv => lhs; whnf
      simp [treeE, h, hb]
def RExprOkI (xs : List AV) (r : AV) (objs : List AObj) : Prop := ∃ l, xs = [.val (nodeRows l)] ∧ r = .bool (treeE l) ∧ objs = []
theorem RExprOkI_mk {l : List NodeD} : RExprOkI [.val (nodeRows l)] (.bool (treeE l)) [] := ⟨l, rfl, rfl, rfl⟩
theorem s_impl_ExprOk : PureSound Tryd.prog 60 RExprOkI := by
  have hR : Rely Tryd.prog (ctxOf [(72, .pure RTreeE)]) := rely_cons b_impl_isTree.has s_impl_isTree (rely_nil mixed)
  refine pure_of_aw b_impl_ExprOk ?_
  rintro xs r objs ⟨l, rfl, rfl, rfl⟩ -
  refine ⟨by simp, vc2_sound hR _ _ _ _ _ ?_⟩
  cases h : treeE l <;> have hm := RTreeE_mk (l := l) <;> rw [h] at hm
  all_goals
    conv => whnf
    repeat' ((first | (refine And.intro (fun hb => ?_) (fun hb => ?_) <;> ((try simp only [SB, reduceCtorEq] at hb); try (exfalso; omega))) | refine G2 ?_ | rw [ints_at (by omega)] | rw [ints_at0 (by omega)] | rw [ints_at' (by omega) (by omega)] | refine G1 ?_ | refine ⟨_, _, hm, ?_⟩ | fail) <;> conv => whnf)
    refine ⟨.inl rfl, ?_⟩
    conv => whnf
    refine ⟨[], ⟨rfl, trivial⟩, ?_, rfl, rfl⟩
    conv => whnf
    left
    conv => lhs; whnf
def c_spec_l2Parts : ICode := (.seq (.reg [Ol 2 .mv [ci 0]]) (.seq (.seq (.reg [O1 3 .mv 0]) (.block 0 (.seq (.seq (.reg [Ol 5 (.bin .eql) [.t 3, ci 1], O1 4 .mv 5]) (.cond (.t 4) .skip (.seq (.reg [Ol 6 (.bin .eql) [.t 3, ci 2], O1 4 .mv 6]) (.cond (.t 4) .skip (.reg [Ol 7 (.bin .eql) [.t 3, ci 3], O1 4 .mv 7]))))) (.cond (.t 4) (.seq (.reg [Ol 2 .mv [ci 0]]) .ret) (.seq (.reg [Ol 9 (.bin .eql) [.t 3, ci 4], O1 8 .mv 9]) (.cond (.t 8) (.seq (.reg [Ol 2 .mv [ci 1]]) .ret) (.seq (.seq (.reg [Ol 11 (.bin .eql) [.t 3, ci 5], O1 10 .mv 11]) (.cond (.t 10) .skip (.reg [Ol 12 (.bin .eql) [.t 3, ci 6], O1 10 .mv 12]))) (.cond (.t 10) (.seq (.reg [Ol 2 .mv [ci 2]]) .ret) .skip)))))))) (.seq (.reg [Ol 2 .mv [ci (-1)]]) .ret)))
theorem b_spec_l2Parts : Body Tryd.prog 50 13 c_spec_l2Parts [(.t 2)] := body_mk Tryd.func50 (by kernel_rfl) (by decide)
def c_spec_ExprOk : ICode := (.seq (.reg [Ol 2 .mv [cb false]]) (.seq (.seq (.reg [O1 7 .mv 0, O1 8 .len 7, Ol 9 (.call 27) [.t 8, ci 1, ci 31], O1 10 .not 9]) (.cond (.t 10) (.seq (.reg [Ol 2 .mv [cb false]]) .ret) .skip)) (.seq (.reg [O0 11 .bsle, O1 3 .mv 11]) (.seq (.seq (.reg [Ol 4 .mv [ci 0]]) (.block 0 (.loop (.seq (.seq (.reg [O1 12 .mv 4, O1 13 .mv 0, O1 14 .len 13, O2 15 (.bin .lss) 12 14]) (.cond (.t 15) .skip (.exit 0))) (.seq (.block 1 (.seq (.reg [O1 18 .mv 0, O1 19 .mv 4, O2 20 (.iadr 3) 18 19, O1 21 (.fadr 0) 20, O1 22 .ld1 21, O1 23 (.call 50) 22, O1 5 .mv 23]) (.seq (.seq (.reg [O1 24 .mv 5, Ol 25 (.bin .lss) [.t 24, ci 0], O1 26 .mv 25, Og 27 .mv [.t 5] 26 false, Og 28 (.bin .eql) [.t 27, ci 0] 26 false, Og 29 .mv [.t 28] 26 false, Og 30 .mv [.t 0] 29 true, Og 31 .mv [.t 4] 29 true, Og 32 (.iadr 3) [.t 30, .t 31] 29 true, Og 33 (.ldn 3) [.t 32] 29 true, Og 34 (.call 51) [.t 33] 29 true, Og 35 .not [.t 34] 29 true, Og 36 .pick [.t 29, .t 35, cb false] 26 false, Ol 37 .pick [.t 26, cb true, .t 36]]) (.cond (.t 37) (.seq (.reg [Ol 2 .mv [cb false]]) .ret) .skip)) (.reg [O1 38 .mv 3, O1 39 .mv 5, O1 40 (.bslv 1) 39, O2 41 (.app 1 8) 38 40, O1 3 .mv 41])))) (.reg [O1 16 .mv 4, Ol 17 (.bin .add) [.t 16, ci 1], O1 4 .mv 17])))))) (.seq (.reg [O1 42 .mv 0, O1 43 .mv 3, O2 44 (.call 52) 42 43, O1 6 .mv 44]) (.seq (.reg [O1 45 .mv 6, O1 46 .len 45, O1 47 .mv 0, O1 48 .len 47, O2 49 (.bin .eql) 46 48, O1 50 .mv 49, Og 51 .mv [.t 6] 50 true, Og 52 .mv [.t 0] 50 true, Og 53 .len [.t 52] 50 true, Og 54 (.bin .sub) [.t 53, ci 1] 50 true, Og 55 (.iadr 1) [.t 51, .t 54] 50 true, Og 56 .ld1 [.t 55] 50 true, Og 57 .mv [.t 0] 50 true, Og 58 .len [.t 57] 50 true, Og 59 (.bin .eql) [.t 56, .t 58] 50 true, Ol 60 .pick [.t 50, .t 59, cb false], O1 2 .mv 60]) .ret))))))
theorem b_spec_ExprOk : Body Tryd.prog 34 61 c_spec_ExprOk [(.t 2)] := body_mk Tryd.func34 (by kernel_rfl) (by decide)
def partsT (k : Int) : Int := if k = 1 ∨ k = 2 ∨ k = 3 then 0 else if k = 4 then 1 else if k = 5 ∨ k = 6 then 2 else -1
def RPartsT (xs : List AV) (r : AV) (objs : List AObj) : Prop := ∃ k, xs = [.int .i64 k] ∧ r = .int .i64 (partsT k) ∧ objs = []
theorem RPartsT_mk {k : Int} : RPartsT [.int .i64 k] (.int .i64 (partsT k)) [] := ⟨k, rfl, rfl, rfl⟩
theorem s_spec_l2Parts : PureSound Tryd.prog 50 RPartsT := by
  have hR : Rely Tryd.prog (ctxOf []) := rely_nil mixed
  refine pure_of_aw b_spec_l2Parts ?_
  rintro xs r objs ⟨k, rfl, rfl, rfl⟩ -
  refine ⟨by simp, vc2_sound hR _ _ _ _ _ ?_⟩
  conv => whnf
  repeat' ((first | (refine And.intro (fun hb => ?_) (fun hb => ?_) <;> ((try simp only [SB, reduceCtorEq] at hb); try (exfalso; omega))) | refine G2 ?_ | rw [ints_at (by omega)] | rw [ints_at0 (by omega)] | rw [ints_at' (by omega) (by omega)] | refine G1 ?_ | fail) <;> conv => whnf)
  all_goals
    refine ⟨.inl rfl, ?_⟩
    conv => whnf
    refine ⟨[], ⟨rfl, trivial⟩, ?_, rfl, rfl⟩
    conv => whnf
    left
    conv => lhs; whnf
    refine congrArg (AV.int .i64) ?_
    simp only [partsT]
    (repeat' split) <;> first | rfl | omega
def nodeS (n : NodeD) : Bool := !(decide (partsT n.kind < 0)) && !(decide (partsT n.kind = 0) && !(leafS n))
def psS (l : List NodeD) : List Int := l.map fun n => partsT n.kind
def exprOk (l : List NodeD) : Bool := decide (1 ≤ l.length ∧ l.length ≤ 31) && l.all nodeS && (match sizes l (psS l) l.length with
  | some out => decide (out.getD (l.length - 1) 0 = l.length)
  | none => false)
def RExprOkS (xs : List AV) (r : AV) (objs : List AObj) : Prop := ∃ l, xs = [.val (nodeRows l)] ∧ r = .bool (exprOk l) ∧ objs = []
theorem RExprOkS_mk {l : List NodeD} : RExprOkS [.val (nodeRows l)] (.bool (exprOk l)) [] := ⟨l, rfl, rfl, rfl⟩
theorem RSizes_eq {xs : List AV} {l : List NodeD} {ps : List Int} (h : xs = [.val (nodeRows l), .val (ints ps)]) (h1 : ps.length = l.length) (h2 : l.length ≤ 31) : RSizes xs (.ref 0 0 (sizesL l ps).length) [.arr 1 (ints (sizesL l ps))] := ⟨l, ps, h, h1, h2, rfl, rfl⟩
theorem psS_take {l : List NodeD} {i : Nat} (h : i < l.length) : psS (l.take (i + 1)) = psS (l.take i) ++ [partsT (l.getD i default).kind] := by
  rw [take_succ_D h]
  simp [psS]
theorem nodeS_true {n : NodeD} (h1 : 0 ≤ partsT n.kind) (h2 : partsT n.kind = 0 → leafS n = true) : nodeS n = true := by
  unfold nodeS
  by_cases h : partsT n.kind = 0
  · simp [h, h2 h]
  · simp [h]; omega
theorem nodeS_neg {n : NodeD} (h : partsT n.kind < 0) : nodeS n = false := by simp [nodeS, h]
theorem nodeS_leaf {n : NodeD} (h : partsT n.kind = 0) (h2 : leafS n = false) : nodeS n = false := by simp [nodeS, h, h2]
theorem exprOk_not {l : List NodeD} {i : Nat} (hi : i < l.length) (h : nodeS (l.getD i default) = false) : exprOk l = false := by
  have : l.all nodeS = false := by
    rw [Bool.eq_false_iff]
    intro ha
    rw [List.all_eq_true] at ha
    have := ha (l.getD i default) (by rw [List.getD_eq_getElem?_getD, List.getElem?_eq_getElem hi]; exact List.getElem_mem hi)
    rw [h] at this
    cases this
  simp [exprOk, this]
theorem exprOk_end {l : List NodeD} (h1 : 1 ≤ l.length ∧ l.length ≤ 31) (h2 : ∀ j, j < l.length → nodeS (l.getD j default) = true) :
    exprOk l = decide ((sizesL l (psS l)).length = l.length ∧ (sizesL l (psS l)).getD (l.length - 1) 0 = l.length) := by
  have ha : l.all nodeS = true := by
    rw [List.all_eq_true]
    intro x hx
    obtain ⟨j, hj, rfl⟩ := List.getElem_of_mem hx
    have := h2 j hj
    rwa [List.getD_eq_getElem?_getD, List.getElem?_eq_getElem hj] at this
  unfold exprOk sizesL
  rw [ha]
  cases hs : sizes l (psS l) l.length with
  | none => simp [h1]; omega
  | some out =>
    have := (sizes_bound _ _ hs).1
    simp [h1, this]
theorem exprOk_end2 {l : List NodeD} (h1 : 1 ≤ l.length ∧ l.length ≤ 31) (h2 : ∀ j, j < l.length → nodeS (l.getD j default) = true) :
    exprOk l = decide ((sizesL l (psS l)).length = l.length ∧ (sizesL l (psS l)).getD (((nodeRows l).length : Int) - 1).toNat 0 = l.length) := by
  have := length_nodeRows l
  have e : (((nodeRows l).length : Int) - 1).toNat = l.length - 1 := by omega
  rw [e]
  exact exprOk_end h1 h2
set_option maxHeartbeats 2000000 in
theorem s_spec_ExprOk : PureSound Tryd.prog 34 RExprOkS := by
  have hR : Rely Tryd.prog (ctxOf [(27, .pure RIn), (50, .pure RPartsT), (51, .pure RLeafS), (52, .pure RSizes)]) :=
    rely_cons b_spec_l1In.has s_spec_l1In (rely_cons b_spec_l2Parts.has s_spec_l2Parts (rely_cons b_spec_l2Leaf.has s_spec_l2Leaf (rely_cons b_spec_l2Sizes.has s_spec_l2Sizes (rely_nil mixed))))
  refine pure_of_aw b_spec_ExprOk ?_
  rintro xs r objs ⟨l, rfl, rfl, rfl⟩ -
  have hln := length_nodeRows l
  refine ⟨by simp, vc2_sound hR _ _ _ _ _ ?_⟩
  conv => whnf
  repeat' ((first | (refine And.intro (fun hb => ?_) (fun hb => ?_) <;> ((try simp only [SB, reduceCtorEq] at hb); try (exfalso; omega))) | refine G2 ?_ | rw [ints_at (by omega)] | rw [ints_at0 (by omega)] | rw [ints_at' (by omega) (by omega)] | refine G1 ?_ | refine ⟨_, _, RIn_mk, ?_⟩ | fail) <;> conv => whnf)
  rotate_left
  · refine ⟨.inl rfl, ?_⟩
    conv => whnf
    refine ⟨[], ⟨rfl, trivial⟩, ?_, rfl, rfl⟩
    conv => whnf
    left
    conv => lhs; whnf
    refine congrArg AV.bool ?_
    have : ¬ (1 ≤ l.length ∧ l.length ≤ 31) := by omega
    simp [exprOk, this]
  have hlen : 1 ≤ l.length ∧ l.length ≤ 31 := by omega
  refine Lp.intro (α := Nat) (fun i => i ≤ l.length ∧ ∀ j, j < i → nodeS (l.getD j default) = true) (fun i => l.length - i) (fun i => [(0, .val (nodeRows l)), (3, .ref 0 0 (psS (l.take i)).length), (4, .int .i64 i)]) (fun i => [some (.arr 1 (ints (psS (l.take i))))]) ?_ ?_
  · refine ⟨0, ⟨by omega, by omega⟩, [none], rfl, rfl, And.intro rfl trivial, ?_⟩
    repeat' (first
      | exact trivial
      | refine ⟨?_, ?_⟩
      | fail)
    all_goals first
      | with_reducible rfl
      | (conv => whnf
         try left
         conv => lhs; whnf
         first
           | rfl
           | exact congrArg (AV.int .i64) (by omega)
           | skip)
  · rintro i ⟨hi, hall⟩
    have hpl : (psS (l.take i)).length = i := by simp [psS]; omega
    have hpi := length_ints (psS (l.take i))
    refine vc2_sound hR _ _ _ _ _ ?_
    conv => whnf
    repeat' ((first | (refine And.intro (fun hb => ?_) (fun hb => ?_) <;> ((try simp only [SB, reduceCtorEq] at hb); try (exfalso; omega))) | refine G2 ?_ | rw [ints_at (by omega)] | rw [ints_at0 (by omega)] | rw [ints_at' (by omega) (by omega)] | refine G1 ?_ | rw [node_at (by omega)] | refine ⟨_, _, RPartsT_mk, ?_⟩ | refine ⟨_, _, RLeafS_mk (n := l.getD i default), ?_⟩ | fail) <;> conv => whnf)
    · refine ⟨.inl rfl, ?_⟩
      conv => whnf
      refine ⟨[], ⟨rfl, trivial⟩, ?_, rfl, rfl⟩
      conv => whnf
      left
      conv => lhs; whnf
      exact congrArg AV.bool (exprOk_not (i := i) (by omega) (nodeS_neg (by assumption))).symm
    · refine ⟨i + 1, ⟨by omega, fun j hj => ?_⟩, by omega, [some 1], rfl, rfl, And.intro (And.intro rfl ?_) trivial, ?_⟩
      · by_cases hji : j = i
        · subst hji; exact nodeS_true (by assumption) (fun _ => by assumption)
        · exact hall j (by omega)
      · rw [psS_take (by omega)]
        exact app_int _ _ _ rfl
      · repeat' (first
          | exact trivial
          | refine ⟨?_, ?_⟩
          | fail)
        all_goals first
          | with_reducible rfl
          | (conv => whnf
             try left
             conv => lhs; whnf
             first
               | rfl
               | exact congrArg (AV.int .i64) (by omega)
               | skip)
        rw [psS_take (by omega)]
        simp
    · refine ⟨.inl rfl, ?_⟩
      conv => whnf
      refine ⟨[], ⟨rfl, trivial⟩, ?_, rfl, rfl⟩
      conv => whnf
      left
      conv => lhs; whnf
      exact congrArg AV.bool (exprOk_not (i := i) (by omega) (nodeS_leaf (by assumption) (by assumption))).symm
    · refine ⟨i + 1, ⟨by omega, fun j hj => ?_⟩, by omega, [some 1], rfl, rfl, And.intro (And.intro rfl ?_) trivial, ?_⟩
      · by_cases hji : j = i
        · subst hji; exact nodeS_true (by assumption) (fun h => absurd h (by assumption))
        · exact hall j (by omega)
      · rw [psS_take (by omega)]
        exact app_int _ _ _ rfl
      · repeat' (first
          | exact trivial
          | refine ⟨?_, ?_⟩
          | fail)
        all_goals first
          | with_reducible rfl
          | (conv => whnf
             try left
             conv => lhs; whnf
             first
               | rfl
               | exact congrArg (AV.int .i64) (by omega)
               | skip)
        rw [psS_take (by omega)]
        simp
    · have hil : i = l.length := by omega
      subst hil
      rw [List.take_length] at *
      refine ⟨_, _, RSizes_eq (l := l) (ps := psS l) (by repeat' (first | exact rfl | refine args_cons ?_ ?_ | refine snap_agg ?_ | refine cells_cons ?_ ?_ | exact snap1_all rfl (by first | (simp only [length_ints]; done) | (simp only [length_nodeRows]; done) | simp [ints, marks]) | exact snap_all rfl (by first | (simp only [length_ints]; done) | (simp only [length_nodeRows]; done) | simp [ints, marks]) | exact snap1_all2 rfl (by first | (simp only [length_ints]; done) | (simp only [length_nodeRows]; done) | simp [ints, marks]) | fail)) (by simp [psS]) hlen.2, ?_⟩
      have hsz := length_ints (sizesL l (psS l))
      conv => whnf
      repeat' ((first | (refine And.intro (fun hb => ?_) (fun hb => ?_) <;> ((try simp only [SB, reduceCtorEq] at hb); try (exfalso; omega))) | refine G2 ?_ | rw [ints_at (by omega)] | rw [ints_at0 (by omega)] | rw [ints_at' (by omega) (by omega)] | refine G1 ?_ | rw [ints_atJ (by omega) (by omega)] | fail) <;> conv => whnf)
      all_goals
        refine ⟨.inl rfl, ?_⟩
        conv => whnf
        refine ⟨[], ⟨rfl, trivial⟩, ?_, rfl, rfl⟩
        conv => whnf
        left
        conv => lhs; whnf
        refine congrArg AV.bool ?_
        rw [exprOk_end2 hlen hall]
        first
        | exact (decide_eq_true (by constructor <;> omega)).symm
        | exact (decide_eq_false (by omega)).symm
end Go.Proofs.YthanhknkoikbfaaDoor.Ct
