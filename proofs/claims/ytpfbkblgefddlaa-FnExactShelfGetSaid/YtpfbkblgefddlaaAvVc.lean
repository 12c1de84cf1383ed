/- The condition that a body's rules ask for, as a function of the compiled code. -/
import Derived.Test.YtpfbkblgefddlaaAvFun
namespace Go.Proofs.Ytpfbkblgefddlaa.Av
set_option linter.unusedSimpArgs false
set_option linter.unusedVariables false
open Go

/-- a loop, at which the evaluation stops -/
structure Lp (P : Program) (N k : Nat) (b : ICode) (K : XK) (e : Env) (h : Heap) (n : Nat) : Prop where
  aw : Aw P N k (.loop b) K e h n

def vc (P : Program) (N k : Nat) (Γ : Ctx) : ICode → XK → Env → Heap → Nat → Prop
  | .skip, K, e, h, n => K .normal e h n
  | .reg ios, K, e, h, n => regK Γ ios e h n (K .normal)
  | .drw ios _ true _, K, e, h, n => drwK Γ ios e h n (K .normal)
  | .drw _ _ false _, _, _, _, _ => False
  | .seq a b, K, e, h, n => vc P N k Γ a (thenK (vc P N k Γ b K) K) e h n
  | .cond z x y, K, e, h, n => condK (z.ev e) (vc P N k Γ x K e h n) (vc P N k Γ y K e h n)
  | .block id b, K, e, h, n => vc P N k Γ b (blockK id K) e h n
  | .loop b, K, e, h, n => Lp P N k b K e h n
  | .exit id, K, e, h, n => K (.exit id) e h n
  | .ret, K, e, h, n => K .ret e h n

/-- What a caller may lean on. -/
structure Rely (P : Program) (Γ : Ctx) : Prop where
  mixed : P.follows .mixedOrders = true
  sound : CtxSound P Γ
  body : CtxBody P Γ

theorem condK_mono {v : AV} {A B A' B' : Prop} (ha : A → A') (hb : B → B') (h : condK v A B) : condK v A' B' := by
  unfold condK at *
  split at h
  · exact ⟨fun c => ha (h.1 c), fun c => hb (h.2 c)⟩
  · exact ⟨fun c => ha (h.1 c), fun c => hb (h.2 c)⟩
  · exact h.elim

theorem vc_sound {P : Program} {N k : Nat} {Γ : Ctx} (hR : Rely P Γ) : ∀ (ic : ICode) (K : XK) (e : Env) (h : Heap) (n : Nat), vc P N k Γ ic K e h n → Aw P N k ic K e h n
  | .skip, K, e, h, n, hv => Aw.skip hv
  | .reg ios, K, e, h, n, hv => Aw.reg (Γ := Γ) (callOk_K hR.sound hR.body) hv
  | .drw ios us true b2, K, e, h, n, hv => Aw.drw (Γ := Γ) hR.mixed (callOk_D hR.sound hR.body) hv
  | .drw _ _ false _, _, _, _, _, hv => hv.elim
  | .seq a b, K, e, h, n, hv => Aw.seq (Aw.mono (fun x e' h' n' g => by
      cases x <;> simp only [thenK] at g ⊢ <;> first | exact g | exact vc_sound hR b K e' h' n' g) (vc_sound hR a _ e h n hv))
  | .cond z x y, K, e, h, n, hv => Aw.cond (condK_mono (vc_sound hR x K e h n) (vc_sound hR y K e h n) hv)
  | .block id b, K, e, h, n, hv => Aw.block (vc_sound hR b _ e h n hv)
  | .loop b, K, e, h, n, hv => hv.aw
  | .exit id, K, e, h, n, hv => Aw.exit hv
  | .ret, K, e, h, n, hv => Aw.ret hv

end Go.Proofs.Ytpfbkblgefddlaa.Av
