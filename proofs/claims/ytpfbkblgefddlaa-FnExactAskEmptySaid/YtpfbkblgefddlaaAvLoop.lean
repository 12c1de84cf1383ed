/- States in a plain form; loops whose rounds begin in such states. -/
import Derived.Test.YtpfbkblgefddlaaAvVc
namespace Go.Proofs.Ytpfbkblgefddlaa.Av
set_option linter.unusedSimpArgs false
set_option linter.unusedVariables false
open Go

def envL : List (Nat × AV) → Env
  | [], _ => .top
  | (t, v) :: r, s => if s = t then v else envL r s

def covAll (σ : List (Option Nat)) (h : Heap) (e : Env) : List (Nat × AV) → Prop
  | [] => True
  | (t, v) :: r => covV σ h (e t) v ∧ covAll σ h e r

theorem covAll_env {σ : List (Option Nat)} {h : Heap} {e : Env} : ∀ (l : List (Nat × AV)), covAll σ h e l → ∀ t, covV σ h (e t) (envL l t)
  | [], _, t => by simp [envL, covV]
  | (t', v) :: r, hc, t => by
    simp only [envL]
    split
    · rename_i ht; subst ht; exact hc.1
    · exact covAll_env r hc.2 t

/-- a state stands for a plain one -/
structure CovN (σ : List (Option Nat)) (e : Env) (h : Heap) (l : List (Nat × AV)) (os : List (Option AObj)) (k : Nat) : Prop where
  nd : nodupB σ = true
  anc : ancB σ os k = true
  obs : covOs σ h σ os
  env : covAll σ h e l

section
variable {P : Program} {N k : Nat} {K : XK} {e : Env} {h : Heap} {n : Nat}

theorem Aw.covN {ic : ICode} {σ : List (Option Nat)} {l : List (Nat × AV)} {os : List (Option AObj)} (hc : CovN σ e h l os k) (hw : Aw P N k ic K (envL l) (objsO os) os.length) : Aw P N k ic K e h n :=
  Aw.cov ⟨hc.nd, hc.obs⟩ hc.anc (covAll_env l hc.env) hw

theorem Aw.post {ic : ICode} {K' : XK} (hk : ∀ x e h n, K x e h n → K' x e h n ∨ ∃ σ l os, CovN σ e h l os k ∧ K' x (envL l) (objsO os) os.length) (hw : Aw P N k ic K e h n) : Aw P N k ic K' e h n := by
  intro c hc w0 pass own0 A hA a w st
  refine wp_mono (hw c hc w0 pass own0 A hA a w st) ?_
  rintro x a' w' ⟨e', h', n', g1, g2⟩
  rcases hk x e' h' n' g1 with g | ⟨σ, l, os, g3, g4⟩
  · exact ⟨e', h', n', g, g2⟩
  · exact ⟨_, _, _, g4, g2.cov ⟨g3.nd, g3.obs⟩ (by rw [hA]; exact g3.anc) (covAll_env l g3.env)⟩

theorem Lp.intro {α : Type} (inv : α → Prop) (m : α → Nat) (L : α → List (Nat × AV)) (O : α → List (Option AObj)) {x : ICode} (h0 : ∃ a, inv a ∧ ∃ σ, CovN σ e h (L a) (O a) k)
    (round : ∀ a, inv a → Aw P N k x (thenK (fun e' h' _ => ∃ a', inv a' ∧ m a' < m a ∧ ∃ σ, CovN σ e' h' (L a') (O a') k) K) (envL (L a)) (objsO (O a)) (O a).length) : Lp P N k x K e h n := by
  obtain ⟨a, ha, σ, hc⟩ := h0
  refine ⟨Aw.covN hc (Aw.loop (fun j e h n => ∃ a, inv a ∧ m a = j ∧ e = envL (L a) ∧ h = objsO (O a) ∧ n = (O a).length) (m a) ⟨a, ha, rfl, rfl, rfl, rfl⟩ ?_)⟩
  rintro j e h n ⟨a, ha, rfl, rfl, rfl, rfl⟩
  refine Aw.post ?_ (round a ha)
  intro x e' h' n' g
  cases x <;> simp only [thenK] at g ⊢ <;> first | exact .inl g | skip
  obtain ⟨a', h1, h2, σ', h3⟩ := g
  exact .inr ⟨σ', L a', O a', h3, m a', h2, a', h1, rfl, rfl, rfl, rfl⟩

/-- a region in two parts: what is fresh may be frozen between them -/
theorem Aw.split {Γ : Ctx} (hR : Rely P Γ) {x y : List IOper} (hk : regK Γ x e h n (fun e' h' _ => ∃ σ l os, CovN σ e' h' l os k ∧ regK Γ y (envL l) (objsO os) os.length (K .normal))) : Aw P N k (.reg (x ++ y)) K e h n := by
  intro c hc w0 pass own0 A hA a w st
  cases c <;> simp only [comp] at hc
  case region id ops draw =>
    split at hc
    · rename_i ios' hio
      split at hc
      · rename_i hd
        cases draw
        · simp at hc
          subst hc
          obtain ⟨g1, g2⟩ := reg_parts hio hd
          have hC := callOk_K hR.sound hR.body
          have hget : ∀ (i j : Nat) k, (List.range' i j)[k]? = some (i + k) ∨ (List.range' i j)[k]? = none := by
            intro i j k
            by_cases hkj : k < j
            · exact .inl (by simp [hkj])
            · exact .inr (by simp; omega)
          have hrange : List.range ops.size = List.range' 0 x.length ++ List.range' x.length y.length := by
            rw [List.range_eq_range', ← g1, List.length_append]
            have := List.range'_append_1 (s := 0) (m := x.length) (n := y.length)
            rw [Nat.zero_add] at this
            exact this.symm
          refine wp_region ?_
          rw [hrange]
          refine reg_sound2 (Γ := Γ) (N := N) hC _ x e h n a w _ (by simp) ?_ st hk ?_
          · intro i k io h1 h2
            rcases hget 0 x.length i with h3 | h3
            · rw [h3] at h1; cases h1
              refine g2 _ io ?_
              rw [Nat.zero_add, List.getElem?_append, if_pos (List.getElem?_eq_some_iff.1 h2).1]
              exact h2
            · rw [h3] at h1; cases h1
          · rintro e' h' n' a' w' ⟨σ, l, os, hcov, hk'⟩ st'
            have st2 := st'.cov ⟨hcov.nd, hcov.obs⟩ (by rw [hA]; exact hcov.anc) (covAll_env l hcov.env)
            have hq := reg_sound2 (l2 := []) (Q := fun x a' w' => ∃ e' h' n', K x e' h' n' ∧ St w0 pass own0 A N e' h' n' a' w') (Γ := Γ) (N := N) hC (ops := ops) (List.range' x.length y.length) y _ _ _ a' w' (K .normal) (by simp) ?_ st2 hk' (fun e' h' n' a' w' hk' st' => ⟨e', h', n', hk', st'⟩)
            · rwa [List.append_nil] at hq
            · intro i k io h1 h2
              rcases hget x.length y.length i with h3 | h3
              · rw [h3] at h1; cases h1
                refine g2 _ io ?_
                rw [List.getElem?_append, if_neg (by omega)]
                have : x.length + i - x.length = i := by omega
                rw [this]; exact h2
              · rw [h3] at h1; cases h1
        · simp at hc
      · cases hc
    · cases hc
  all_goals ((repeat' split at hc) <;> simp at hc)

/-- a place at which both arms of a condition meet again -/
theorem Aw.meet {α : Type} (inv : α → Prop) (L : α → List (Nat × AV)) (O : α → List (Option AObj)) {x y : ICode}
    (h1 : Aw P N k x (thenK (fun e' h' _ => ∃ a', inv a' ∧ ∃ σ, CovN σ e' h' (L a') (O a') k) K) e h n) (h2 : ∀ a, inv a → Aw P N k y K (envL (L a)) (objsO (O a)) (O a).length) : Aw P N k (.seq x y) K e h n := by
  refine Aw.seq (Aw.post ?_ h1)
  intro x e' h' n' g
  cases x <;> simp only [thenK] at g ⊢ <;> first | exact .inl g | skip
  obtain ⟨a', g1, σ', g3⟩ := g
  exact .inl (Aw.covN g3 (h2 a' g1))

end

/-- a few contracts -/
def ctxOf : List (Nat × Spec) → Ctx
  | [], _ => none
  | (g, S) :: r, f => if f = g then some S else ctxOf r f

theorem rely_nil {P : Program} (hm : P.follows .mixedOrders = true) : Rely P (ctxOf []) := ⟨hm, fun _ _ h => by simp [ctxOf] at h, fun _ _ h => by simp [ctxOf] at h⟩

theorem rely_cons {P : Program} {g : Nat} {S : Spec} {l : List (Nat × Spec)} (hb : HasBody P g) (hs : S.Sound P g) (hl : Rely P (ctxOf l)) : Rely P (ctxOf ((g, S) :: l)) := by
  refine ⟨hl.mixed, fun f T h => ?_, fun f T h => ?_⟩
  · simp only [ctxOf] at h
    split at h
    · rename_i hf; cases h; subst hf; exact hs
    · exact hl.sound f T h
  · simp only [ctxOf] at h
    split at h
    · rename_i hf; subst hf; exact hb
    · exact hl.body f T h

/-- a list of numbers as rows of one cell -/
def ints (xs : List Int) : List (List AV) := xs.map fun n => [.int .i64 n]

theorem length_ints (xs : List Int) : (ints xs).length = xs.length := by simp [ints]
theorem ints_get (xs : List Int) (i : Nat) (h : i < xs.length) : (ints xs)[i]? = some [.int .i64 xs[i]] := by simp [ints, List.getElem?_map, List.getElem?_eq_getElem h]

theorem ints_at {xs : List Int} {i : Nat} (h : i < xs.length) : (ints xs)[((i : Nat) : Int).toNat]? = some [.int .i64 (xs.getD i 0)] := by
  simp [ints, List.getElem?_map, List.getElem?_eq_getElem h, List.getD_eq_getElem?_getD]
theorem ints_at' {xs : List Int} {i : Int} (h0 : 0 ≤ i) (h : i < xs.length) : (ints xs)[i.toNat]? = some [.int .i64 (xs.getD i.toNat 0)] := by
  have : i.toNat < xs.length := by omega
  simp [ints, List.getElem?_map, List.getElem?_eq_getElem this, List.getD_eq_getElem?_getD]

theorem rowsOf_all {h : Heap} {id z len : Nat} {rows : List (List AV)} (ho : h id = some (.arr z rows)) (hl : rows.length = len) : rowsOf h (.ref id 0 len) = some rows := by
  subst hl
  simp [rowsOf, ho, sub]

/-! ### slices of rows of any kind -/
theorem map_at {α : Type} [Inhabited α] {f : α → List AV} {xs : List α} {i : Nat} (h : i < xs.length) : (xs.map f)[((i : Nat) : Int).toNat]? = some (f (xs.getD i default)) := by
  simp [List.getElem?_map, List.getElem?_eq_getElem h, List.getD_eq_getElem?_getD]
theorem map_at0 {α : Type} [Inhabited α] {f : α → List AV} {xs : List α} {i : Nat} (h : i < xs.length) : (xs.map f)[0 + ((i : Nat) : Int).toNat]? = some (f (xs.getD i default)) := by
  rw [Nat.zero_add]; exact map_at h
theorem take_succ_D {α : Type} [Inhabited α] {l : List α} {i : Nat} (hi : i < l.length) : l.take (i + 1) = l.take i ++ [l.getD i default] := by
  rw [List.take_add_one, List.getElem?_eq_getElem hi, List.getD_eq_getElem?_getD, List.getElem?_eq_getElem hi]
  rfl
theorem fill_stepD {α : Type} [Inhabited α] {f : α → List AV} {l : List α} {z : α} {i : Nat} (hi : i < l.length) : ((l.take i ++ List.replicate (l.length - i) z).map f).set i (f (l.getD i default)) = (l.take (i + 1) ++ List.replicate (l.length - (i + 1)) z).map f := by
  rw [take_succ_D hi]
  have e : l.length - i = (l.length - (i + 1)) + 1 := by omega
  rw [e, List.replicate_succ]
  simp [List.set_append, Nat.min_eq_left (Nat.le_of_lt hi)]

theorem ints_nov (l : List Int) : (ints l).all AV.novs = true := by
  simp [ints, AV.novs, AV.nov]
theorem ints_at0 {xs : List Int} {i : Nat} (h : i < xs.length) : (ints xs)[0 + ((i : Nat) : Int).toNat]? = some [.int .i64 (xs.getD i 0)] := by
  rw [Nat.zero_add]; exact ints_at h

/-- what is said of truths, in the forms that arithmetic takes -/
theorem SB : (∀ (p : Prop) [Decidable p], decide p = true ↔ p) ∧ (∀ (p : Prop) [Decidable p], decide p = false ↔ ¬ p) ∧ (∀ b : Bool, (!b) = true ↔ b = false) ∧ (∀ b : Bool, (!b) = false ↔ b = true) ∧ (∀ b : Bool, (!!b) = b) ∧
    (∀ (α : Type) (a b : α), a ≠ b ↔ ¬ a = b) ∧ (∀ xs, (ints xs).length = xs.length) ∧ (∀ (α β : Type) (f : α → β) (l : List α), (l.map f).length = l.length) ∧
    (∀ (α : Type) [BEq α] [LawfulBEq α] (a b : α), (a == b) = true ↔ a = b) ∧ (∀ (α : Type) [BEq α] [LawfulBEq α] (a b : α), (a == b) = false ↔ ¬ a = b) ∧
    (∀ (α : Type) [BEq α] [LawfulBEq α] (a b : α), (a != b) = true ↔ ¬ a = b) ∧ (∀ (α : Type) [BEq α] [LawfulBEq α] (a b : α), (a != b) = false ↔ a = b) ∧
    (∀ a b : Int, ¬ a ≤ b ↔ b < a) ∧ (∀ a b : Int, ¬ a < b ↔ b ≤ a) ∧ (∀ a b : Int, a ≥ b ↔ b ≤ a) ∧ (∀ a b : Int, a > b ↔ b < a) ∧ (¬ False ↔ True) ∧ (¬ True ↔ False) ∧ (false = true ↔ False) ∧ (true = false ↔ False) ∧ (∀ (α : Type) (a : α), a = a ↔ True) := by
  refine ⟨?_, ?_, ?_, ?_, ?_, ?_, ?_, ?_, ?_, ?_, ?_, ?_, ?_, ?_, ?_, ?_, ?_, ?_, ?_, ?_, ?_⟩ <;> intros <;> simp [ints]

/-! ### what a call is handed -/
theorem args_cons {h : Heap} {x y : AV} {xs ys : List AV} (h1 : x.snap h = y) (h2 : xs.map (AV.snap h) = ys) : (x :: xs).map (AV.snap h) = y :: ys := by rw [List.map_cons, h1, h2]
theorem cells_cons {h : Heap} {x y : AV} {xs ys : List AV} (h1 : x.snap1 h = y) (h2 : xs.map (AV.snap1 h) = ys) : (x :: xs).map (AV.snap1 h) = y :: ys := by rw [List.map_cons, h1, h2]
theorem snap_agg {h : Heap} {xs ys : List AV} (h1 : xs.map (AV.snap1 h) = ys) : (AV.agg xs).snap h = .agg ys := by rw [AV.snap, h1]
theorem snap1_ref {h : Heap} {id off len z : Nat} {rows rows' : List (List AV)} (ho : h id = some (.arr z rows)) (hl : off + len ≤ rows.length) (hs : sub rows off len = rows') : (AV.ref id off len).snap1 h = .val rows' := by
  subst hs; simp [AV.snap1, ho, hl]
theorem snap1_all {h : Heap} {id len z : Nat} {rows : List (List AV)} (ho : h id = some (.arr z rows)) (hl : rows.length = len) : (AV.ref id 0 len).snap1 h = .val rows := by
  subst hl; exact snap1_ref ho (by simp) (by simp [sub])
theorem snap1_all2 {h h2 : Heap} {id len z : Nat} {rows : List (List AV)} (ho : h id = some (.arr z rows)) (hl : rows.length = len) : ((AV.ref id 0 len).snap1 h).snap1 h2 = .val rows := by
  rw [snap1_all ho hl]; rfl
theorem snap_ref {h : Heap} {id off len z : Nat} {rows rows' : List (List AV)} (ho : h id = some (.arr z rows)) (hl : off + len ≤ rows.length) (hs : sub rows off len = rows') : (AV.ref id off len).snap h = .val rows' := snap1_ref ho hl hs
theorem snap_all {h : Heap} {id len z : Nat} {rows : List (List AV)} (ho : h id = some (.arr z rows)) (hl : rows.length = len) : (AV.ref id 0 len).snap h = .val rows := snap1_all ho hl

theorem rel_len {w : World} {own : Nat → Prop} {π : Pl} {n : Nat} {rows : List (List AV)} {v : Value} (h : Rel w own π n (.val rows) v) : rows.length ≤ 9223372036854775807 := by
  cases h with
  | valNil => simp
  | val => assumption

theorem rels_at {w : World} {own : Nat → Prop} {π : Pl} {n : Nat} {xs : List AV} {vs : List Value} (h : Rels w own π n xs vs) {i : Nat} {x : AV} (hx : xs[i]? = some x) : ∃ v, Rel w own π n x v := by
  have hi := (List.getElem?_eq_some_iff.1 hx).1
  have : i < vs.length := by rw [← h.1]; exact hi
  exact ⟨_, h.2 i x _ hx (List.getElem?_eq_getElem this)⟩

end Go.Proofs.Ytpfbkblgefddlaa.Av
