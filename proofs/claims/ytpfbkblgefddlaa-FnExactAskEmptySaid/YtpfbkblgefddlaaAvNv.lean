/- Contexts whose results hold no frozen rows; the condition, with regions at which the evaluation stops. -/
import Derived.Test.YtpfbkblgefddlaaAvVc3
import Derived.Test.YtpfbkblgefddlaaAvLoop
import Derived.Test.YtpfbkblgefddlaaAvVc2
namespace Go.Proofs.Ytpfbkblgefddlaa.Av
set_option linter.unusedSimpArgs false
set_option linter.unusedVariables false
open Go

theorem nvNil : CtxNV (ctxOf []) := fun f k G h => by simp [ctxOf] at h
theorem nv_pure {g : Nat} {R : List AV → AV → List AObj → Prop} {l : List (Nat × Av.Spec)} (h : CtxNV (ctxOf l)) : CtxNV (ctxOf ((g, .pure R) :: l)) := by
  intro f k G hf
  simp only [ctxOf] at hf
  split at hf
  · cases hf
  · exact h f k G hf
theorem nv_gen {g k0 : Nat} {G0 : GFun} {l : List (Nat × Av.Spec)} (h0 : ∀ xs objs Q, G0 xs objs Q → ∃ r out, Q r out) (h : CtxNV (ctxOf l)) : CtxNV (ctxOf ((g, .gen k0 G0) :: l)) := by
  intro f k G hf
  simp only [ctxOf] at hf
  split at hf
  · cases hf; exact h0
  · exact h f k G hf

end Go.Proofs.Ytpfbkblgefddlaa.Av

namespace Go.Proofs.Ytpfbkblgefddlaa.Av
set_option linter.unusedSimpArgs false
set_option linter.unusedVariables false
open Go

/-- a region at which the evaluation stops -/
structure Rg (P : Program) (N k : Nat) (ios : List IOper) (K : XK) (e : Env) (h : Heap) (n : Nat) : Prop where
  aw : Aw P N k (.reg ios) K e h n

/-- the region that begins with one of these slots -/
def isAt (s : List Nat) : List IOper → Bool
  | o :: _ => (match o.dst with
    | some d => s.any (Nat.beq d)
    | none => false)
  | [] => false

def vcS (P : Program) (N k : Nat) (Γ : Ctx) (s : List Nat) (ic : ICode) : XK → Env → Heap → Nat → Prop :=
  ICode.rec (motive := fun _ => XK → Env → Heap → Nat → Prop)
    (fun K e h n => K .normal e h n)
    (fun ios K e h n => match isAt s ios with
      | true => Rg P N k ios K e h n
      | false => regK2 Γ ios e h n (K .normal))
    (fun ios _ b1 _ K e h n => match b1 with
      | true => drwK2 Γ ios e h n (K .normal)
      | false => False)
    (fun _ _ va vb K e h n => va (thenK (vb K) K) e h n)
    (fun z _ _ vx vy K e h n => condK2 (z.ev e) (vx K e h n) (vy K e h n))
    (fun id _ vb K e h n => vb (blockK id K) e h n)
    (fun b _ K e h n => Lp P N k b K e h n)
    (fun id K e h n => K (.exit id) e h n)
    (fun K e h n => K .ret e h n) ic

theorem vcS_sound {P : Program} {N k : Nat} {Γ : Ctx} (hR : Rely P Γ) (s : List Nat) : ∀ (ic : ICode) (K : XK) (e : Env) (h : Heap) (n : Nat), vcS P N k Γ s ic K e h n → Aw P N k ic K e h n
  | .skip, K, e, h, n, hv => Aw.skip hv
  | .reg ios, K, e, h, n, hv => by
    have hv : (match isAt s ios with | true => Rg P N k ios K e h n | false => regK2 Γ ios e h n (K .normal)) := hv
    cases hi : isAt s ios with
    | true => rw [hi] at hv; exact hv.aw
    | false => rw [hi] at hv; exact vc2_sound hR (.reg ios) K e h n hv
  | .drw ios us b1 b2, K, e, h, n, hv => vc2_sound hR (.drw ios us b1 b2) K e h n hv
  | .seq a b, K, e, h, n, hv => by
    refine Aw.seq ?_
    have h1 := vcS_sound hR s a (thenK (vcS P N k Γ s b K) K) e h n hv
    refine h1.mono fun x e' h' n' g => ?_
    cases x <;> simp only [thenK] at g ⊢ <;> first | exact g | exact vcS_sound hR s b K e' h' n' g
  | .cond z x y, K, e, h, n, hv => by
    have hv : condK2 (z.ev e) (vcS P N k Γ s x K e h n) (vcS P N k Γ s y K e h n) := hv
    rw [condK2_eq] at hv
    exact Aw.cond (condK_mono (vcS_sound hR s x K e h n) (vcS_sound hR s y K e h n) hv)
  | .block id b, K, e, h, n, hv => Aw.block (vcS_sound hR s b (blockK id K) e h n hv)
  | .loop b, K, e, h, n, hv => Lp.aw hv
  | .exit id, K, e, h, n, hv => Aw.exit hv
  | .ret, K, e, h, n, hv => Aw.ret hv

/-- such a region in two parts -/
theorem Rg.split {P : Program} {N k : Nat} {K : XK} {e : Env} {h : Heap} {n : Nat} {Γ : Ctx} (hR : Rely P Γ) (i : Nat) {l : List IOper} (hk : regK2 Γ (l.take i) e h n (fun e' h' n' => ∃ σ L os, CovN σ e' h' L os k ∧ regK2 Γ (l.drop i) (envL L) (objsO os) os.length (K .normal))) : Rg P N k l K e h n := by
  have h1 : Aw P N k (.reg (l.take i ++ l.drop i)) K e h n := Aw.split hR (by rw [← regK2_eq]; simpa only [regK2_eq] using hk)
  rw [List.take_append_drop] at h1
  exact ⟨h1⟩

end Go.Proofs.Ytpfbkblgefddlaa.Av
