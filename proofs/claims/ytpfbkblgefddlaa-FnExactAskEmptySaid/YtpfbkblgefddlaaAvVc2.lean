/- The same condition in a form that is quick to evaluate: truths are parted where they arise, values are brought to their head form. -/
import Derived.Test.YtpfbkblgefddlaaAvVc
namespace Go.Proofs.Ytpfbkblgefddlaa.Av
set_option linter.unusedSimpArgs false
set_option linter.unusedVariables false
open Go

def force (v : AV) (K : AV → Prop) : Prop := match v with
  | .top => K .top
  | .undef => K .undef
  | .int k n => K (.int k n)
  | .bool b => (b = true → K (.bool true)) ∧ (b = false → K (.bool false))
  | .str s => K (.str s)
  | .agg vs => K (.agg vs)
  | .tup vs => K (.tup vs)
  | .ref id off len => K (.ref id off len)
  | .snil => K .snil
  | .val rows => K (.val rows)
  | .ptr id i off => K (.ptr id i off)
  | .rptr row off => K (.rptr row off)
  | .pnil => K .pnil
  | .fn f caps => K (.fn f caps)
  | .fnil => K .fnil
  | .maybe c d => K (.maybe c d)
  | .own z rows => K (.own z rows)
  | .tmp rows => K (.tmp rows)

theorem force_eq (v : AV) (K : AV → Prop) : force v K = K v := by
  cases v <;> try rfl
  rename_i b
  cases b <;> simp [force]

/-- a new truth is parted, what is moved is not -/
def force0 (v : AV) (K : AV → Prop) : Prop := match v with
  | .top => K .top
  | .undef => K .undef
  | .int k n => K (.int k n)
  | .bool true => K (.bool true)
  | .bool false => K (.bool false)
  | .str s => K (.str s)
  | .agg vs => K (.agg vs)
  | .tup vs => K (.tup vs)
  | .ref id off len => K (.ref id off len)
  | .snil => K .snil
  | .val rows => K (.val rows)
  | .ptr id i off => K (.ptr id i off)
  | .rptr row off => K (.rptr row off)
  | .pnil => K .pnil
  | .fn f caps => K (.fn f caps)
  | .fnil => K .fnil
  | .maybe c d => K (.maybe c d)
  | .own z rows => K (.own z rows)
  | .tmp rows => K (.tmp rows)

theorem force0_eq (v : AV) (K : AV → Prop) : force0 v K = K v := by
  cases v <;> try rfl
  rename_i b
  cases b <;> rfl

def Tag.makes : Tag → Bool
  | .bin _ | .beq _ | .aeq _ _ | .ld1 | .fld1 _ | .ext _ | .call _ | .dyn | .aidx _ => true
  | _ => false

def forceT (t : Tag) (v : AV) (K : AV → Prop) : Prop := match t.makes with
  | true => force v K
  | false => force0 v K

theorem forceT_eq (t : Tag) (v : AV) (K : AV → Prop) : forceT t v K = K v := by
  unfold forceT
  split
  · exact force_eq v K
  · exact force0_eq v K

def guardK2 (o : IOper) (e : Env) (yes no : Prop) : Prop := match o.g with
  | none => yes
  | some (t, b) => match e t with
    | .bool c => (match c, b with
      | true, true => yes
      | false, false => yes
      | true, false => no
      | false, true => no)
    | .undef => no
    | _ => False

theorem guardK2_eq (o : IOper) (e : Env) (yes no : Prop) : guardK2 o e yes no = guardK o e yes no := by
  unfold guardK2 guardK
  cases o.g with
  | none => rfl
  | some g =>
    obtain ⟨t, b⟩ := g
    simp only []
    cases e t <;> try rfl
    rename_i c
    cases c <;> cases b <;> simp

def condK2 (v : AV) (yes no : Prop) : Prop := match v with
  | .maybe c d => (c → yes) ∧ (d → no)
  | .bool c => (match c with
    | true => yes
    | false => no)
  | _ => False

theorem condK2_eq (v : AV) (yes no : Prop) : condK2 v yes no = condK v yes no := by
  unfold condK2 condK
  cases v <;> try rfl
  rename_i c
  cases c <;> simp

/-- a cell in its head form -/
def forceC (v : AV) (K : AV → Prop) : Prop := match v with
  | .top => K .top
  | .undef => K .undef
  | .int k n => K (.int k n)
  | .bool b => K (.bool b)
  | .str s => K (.str s)
  | .agg vs => K (.agg vs)
  | .tup vs => K (.tup vs)
  | .ref id off len => K (.ref id off len)
  | .snil => K .snil
  | .val rows => K (.val rows)
  | .ptr id i off => K (.ptr id i off)
  | .rptr row off => K (.rptr row off)
  | .pnil => K .pnil
  | .fn f caps => K (.fn f caps)
  | .fnil => K .fnil
  | .maybe c d => K (.maybe c d)
  | .own z rows => K (.own z rows)
  | .tmp rows => K (.tmp rows)

theorem forceC_eq (v : AV) (K : AV → Prop) : forceC v K = K v := by cases v <;> rfl

/-- a short row of cells, each in its head form -/
def forceRow (row : List AV) : (List AV → Prop) → Prop :=
  List.rec (motive := fun _ => (List AV → Prop) → Prop) (fun K => K []) (fun c _ ih K => forceC c fun c => ih fun r => K (c :: r)) row

theorem forceRow_eq : ∀ (row : List AV) (K : List AV → Prop), forceRow row K = K row
  | [], _ => rfl
  | c :: r, K => by
    show (forceC c fun c => forceRow r fun r => K (c :: r)) = _
    rw [forceC_eq, forceRow_eq r]

def forceObj (o : AObj) (K : AObj → Prop) : Prop := match o with
  | .box row => forceRow row fun row => K (.box row)
  | .arr s rows => K (.arr s rows)
  | .nst s rows => K (.nst s rows)
  | .arx s rows => K (.arx s rows)

theorem forceObj_eq (o : AObj) (K : AObj → Prop) : forceObj o K = K o := by
  cases o <;> simp [forceObj, forceRow_eq]

def forceL (l : List Nat) : (List Nat → Prop) → Prop :=
  List.rec (motive := fun _ => (List Nat → Prop) → Prop) (fun K => K []) (fun a _ ih K => ih fun r => K (a :: r)) l

theorem forceL_eq : ∀ (l : List Nat) (K : List Nat → Prop), forceL l K = K l
  | [], _ => rfl
  | a :: r, K => by
    show (forceL r fun r => K (a :: r)) = _
    rw [forceL_eq r]

/-- objects that a call has made, laid one by one -/
def addK (f : Nat → Option Nat) (objs : List AObj) : Heap → Nat → (Heap → Nat → Prop) → Prop :=
  List.rec (motive := fun _ => Heap → Nat → (Heap → Nat → Prop) → Prop) (fun h n K => K h n) (fun o _ ih h n K => forceObj (o.mapId f) fun o => ih (h.set n o) (n + 1) K) objs

theorem addK_eq (f : Nat → Option Nat) : ∀ (objs : List AObj) (h : Heap) (n : Nat) (K : Heap → Nat → Prop), addK f objs h n K = K (addObjs h n (objs.map (AObj.mapId f))) (n + objs.length)
  | [], h, n, K => rfl
  | o :: r, h, n, K => by
    show (forceObj (o.mapId f) fun o => addK f r (h.set n o) (n + 1) K) = _
    rw [forceObj_eq, addK_eq f r]
    simp only [List.map_cons, addObjs, List.length_cons]
    rw [Nat.add_assoc, Nat.add_comm 1]

def setK (f : Nat → Option Nat) (out : List (Option AObj)) : List Nat → Heap → Nat → (Heap → Prop) → Prop :=
  List.rec (motive := fun _ => List Nat → Heap → Nat → (Heap → Prop) → Prop) (fun _ h _ K => K h)
    (fun o _ ih l h n K => match l, o with
      | id :: l, some o => forceObj (o.mapId f) fun o => ih l (h.set id o) n K
      | id :: l, none => ih l (h.del id) n K
      | [], some o => forceObj (o.mapId f) fun o => ih [] (h.set n o) (n + 1) K
      | [], none => ih [] h (n + 1) K) out

theorem setK_eq (f : Nat → Option Nat) : ∀ (out : List (Option AObj)) (l : List Nat) (h : Heap) (n : Nat) (K : Heap → Prop), setK f out l h n K = K (setObjs h n l (out.map fun o => o.map (AObj.mapId f)))
  | [], l, h, n, K => by
    show K h = _
    cases l <;> rfl
  | o :: r, l, h, n, K => by
    cases l with
    | nil =>
      cases o with
      | none => show setK f r [] h (n + 1) K = _; rw [setK_eq f r]; rfl
      | some o => show (forceObj (o.mapId f) fun o => setK f r [] (h.set n o) (n + 1) K) = _; rw [forceObj_eq, setK_eq f r]; rfl
    | cons id l =>
      cases o with
      | none => show setK f r l (h.del id) n K = _; rw [setK_eq f r]; rfl
      | some o => show (forceObj (o.mapId f) fun o => setK f r l (h.set id o) n K) = _; rw [forceObj_eq, setK_eq f r]; rfl

/-- a contract at a call, at which the evaluation stops -/
structure GH (G : GFun) (xs : List AV) (objs : List AObj) (Q : AV → List (Option AObj) → Prop) : Prop where
  holds : G xs objs Q

def callGen2 (k : Nat) (G : GFun) (args : List AV) (h : Heap) (n : Nat) (K : Kont) : Prop :=
  forceL (reach h args) fun l => chk (hasLen l k && allLive h l)
    (GH G (args.map (AV.mapId (place l))) (l.map fun id => ((h id).getD default).mapId (place l))
      fun r out => setK (unplace l n) out l h n fun h' => K (r.mapId (unplace l n)) h' (n + (out.length - k)))

theorem callGen2_eq (k : Nat) (G : GFun) (args : List AV) (h : Heap) (n : Nat) (K : Kont) : callGen2 k G args h n K = callGen k G args h n K := by
  unfold callGen2 callGen
  rw [forceL_eq, chk_eq, Bool.and_eq_true, hasLen_iff, allLive_iff]
  refine propext ⟨fun ⟨⟨a, b⟩, c⟩ => ⟨a, b, ?_⟩, fun ⟨a, b, c⟩ => ⟨⟨a, b⟩, ⟨?_⟩⟩⟩
  · have := c.holds
    simpa only [setK_eq] using this
  · simpa only [setK_eq] using c

def callPure2 (R : List AV → AV → List AObj → Prop) (args : List AV) (h : Heap) (n : Nat) (K : Kont) : Prop :=
  ∃ r objs, R (args.map (AV.snap h)) r objs ∧ addK (shift n) objs h n fun h' n' => K (r.mapId (shift n)) h' n'

theorem callPure2_eq (R : List AV → AV → List AObj → Prop) (args : List AV) (h : Heap) (n : Nat) (K : Kont) : callPure2 R args h n K = callPure R args h n K := by
  unfold callPure2 callPure
  simp only [addK_eq]

def CK2 (Γ : Ctx) : CallF := fun f xs h n K => match Γ f with
  | some (.pure R) => callPure2 R xs h n K
  | some (.loose R) => chk (xs.all AV.freeA) (callPure2 R xs h n K)
  | some (.gen k G) => callGen2 k G xs h n K
  | none => False

theorem CK2_eq (Γ : Ctx) : CK2 Γ = CK Γ := by
  funext f xs h n K
  unfold CK2 CK
  cases Γ f with
  | none => rfl
  | some S =>
    cases S with
    | pure R => exact callPure2_eq R xs h n K
    | loose R => show chk _ _ = (_ ∧ _); rw [chk_eq, callPure2_eq]
    | gen k G => exact callGen2_eq k G xs h n K

def lones : List AV → Bool
  | [] => true
  | c :: r => c.lone && lones r
theorem lones_iff : ∀ {l : List AV}, lones l = true ↔ ∀ c ∈ l, c.lone = true
  | [] => by simp [lones]
  | x :: r => by simp [lones, lones_iff (l := r)]

/-- a length, reckoned -/
def lenK (l : List AV) : (Nat → Prop) → Prop := List.rec (motive := fun _ => (Nat → Prop) → Prop) (fun K => K 0) (fun _ _ ih K => ih fun m => K (m + 1)) l
theorem lenK_eq : ∀ (l : List AV) (K : Nat → Prop), lenK l K = K l.length
  | [], _ => rfl
  | _ :: r, K => by
    show (lenK r fun m => K (m + 1)) = _
    rw [lenK_eq r]
    rfl

/-- the cells of values, each in its head form -/
def rowsK (vs : List AV) : (List (List AV) → Prop) → Prop :=
  List.rec (motive := fun _ => (List (List AV) → Prop) → Prop) (fun K => K []) (fun v _ ih K => forceRow v.cells fun r => ih fun rs => K (r :: rs)) vs
theorem rowsK_eq : ∀ (vs : List AV) (K : List (List AV) → Prop), rowsK vs K = K (vs.map AV.cells)
  | [], _ => rfl
  | v :: r, K => by
    show (forceRow v.cells fun x => rowsK r fun rs => K (x :: rs)) = _
    rw [forceRow_eq, rowsK_eq r]
    rfl

def semBinF (op : BinOp) (x y : AV) (K : AV → Prop) : Prop :=
  match x, y with
  | .int k a, .int k' b => if op = .shl ∨ op = .shr then semShift op k a b K else chk (decide (k = k')) (semInt op k a b K)
  | .str a, .str b => semStr op a b K
  | _, _ => False
theorem semBinF_eq (op : BinOp) (x y : AV) (K : AV → Prop) : semBinF op x y K = semBin op x y K := by
  unfold semBinF semBin
  split <;> simp only [chk_eq, decide_eq_true_eq]

/-- the operations, with what they make in its head form; what is told by the operation alone is tested by the evaluation -/
def semF (tag : Tag) (vs : List AV) (h : Heap) (n : Nat) (K : Kont) : Prop :=
  match tag, vs with
  | .bin op, [x, y] => semBinF op x y fun v => K v h n
  | .box s, [v] => chk (hasLen v.cells s && okcs h v.cells) (forceRow v.cells fun row => K (.ptr n 0 0) (h.set n (.box row)) (n + 1))
  | .ld1, [.ptr id i off] => (match h id with
    | some (.box row) => chk (Nat.beq i 0) (match row[off]? with | some v => K v h n | Option.none => False)
    | some (.arr _ rows) => (match rows[i]? with
      | some row => (match row[off]? with | some v => K v h n | Option.none => False)
      | Option.none => False)
    | some (.nst _ rows) => (match rows[i]? with
      | some row => (match row[off]? with | some v => chk v.free (K v h n) | Option.none => False)
      | Option.none => False)
    | some (.arx _ rows) => (match rows[i]? with
      | some row => (match row[off]? with | some v => chk v.lone (K v h n) | Option.none => False)
      | Option.none => False)
    | Option.none => False)
  | .st s, [.ptr id i off, v] => chk (hasLen v.cells s && okcs h v.cells) (match h id with
    | some (.box row) => chk (Nat.beq i 0 && atLeast row (off + s)) (forceRow (setCells row off v.cells) fun row => K .undef (h.set id (.box row)) n)
    | some (.arr z rows) => (match rows[i]? with
      | some row => chk (atLeast row (off + s) && frees v.cells) (forceRow (setCells row off v.cells) fun row => K .undef (h.set id (.arr z (rows.set i row))) n)
      | Option.none => False)
    | some (.nst z rows) => (match rows[i]? with
      | some row => chk (atLeast row (off + s) && frees v.cells) (forceRow (setCells row off v.cells) fun row => K .undef (h.set id (.nst z (rows.set i row))) n)
      | Option.none => False)
    | some (.arx z rows) => (match rows[i]? with
      | some row => chk (atLeast row (off + s)) (forceRow (setCells row off v.cells) fun row => K .undef (h.set id (.arx z (rows.set i row))) n)
      | Option.none => False)
    | Option.none => False)
  | .ldn s, [.ptr id i off] => (match h id with
    | some (.box row) => chk (Nat.beq i 0 && atLeast row (off + s)) (forceRow (sub row off s) fun r => K (.agg r) h n)
    | some (.arr _ rows) => (match rows[i]? with
      | some row => chk (atLeast row (off + s)) (forceRow (sub row off s) fun r => K (.agg r) h n)
      | Option.none => False)
    | some (.nst _ rows) => (match rows[i]? with
      | some row => chk (atLeast row (off + s) && frees (sub row off s)) (forceRow (sub row off s) fun r => K (.agg r) h n)
      | Option.none => False)
    | some (.arx _ rows) => (match rows[i]? with
      | some row => chk (atLeast row (off + s) && lones (sub row off s)) (forceRow (sub row off s) fun r => K (.agg r) h n)
      | Option.none => False)
    | Option.none => False)
  | .ldn s, [.rptr row off] => chk (atLeast row (off + s)) (forceRow (sub row off s) fun r => K (.agg r) h n)
  | .iadr s, [.ref id off len, .int _ i] => (0 ≤ i ∧ i < len) ∧ (match h id with
    | some (.arr z _) => chk (Nat.beq z s) (K (.ptr id (off + i.toNat) 0) h n)
    | some (.nst z _) => chk (Nat.beq z s) (K (.ptr id (off + i.toNat) 0) h n)
    | some (.arx z _) => chk (Nat.beq z s) (K (.ptr id (off + i.toNat) 0) h n)
    | _ => False)
  | .iadr s, [.val rows, .int _ i] => 0 ≤ i ∧ (match rows[i.toNat]? with
    | some row => chk (hasLen row s) (K (.rptr row 0) h n)
    | Option.none => False)
  | .fldn off s, [.agg vs] => chk (atLeast vs (off + s)) (forceRow (sub vs off s) fun r => K (.agg r) h n)
  | .bld zero places, vs => chk (okvs h vs) (match fillRow zero places vs with | some row => forceRow row fun row => K (.agg row) h n | Option.none => False)
  | .bsl s, vs => chk (bslB s vs && Nat.ble (vs.length * s) 16777216) (lenK vs fun m => rowsK vs fun rows => K (.ref n 0 m) (h.set n (.arr s rows)) (n + 1))
  | .bslv s, vs => chk (clenB s vs && Nat.ble (vs.length * s) 16777216) (rowsK vs fun rows => match vs.all fun v => v.cells.all AV.free with
    | true => K (.val rows) h n
    | false => chk (okvs anyH vs) (K (.tmp rows) h n))
  | .mks s bytes zero, [.int _ l, .int _ c] => (0 ≤ l ∧ l ≤ c ∧ (bytes : Int) * c ≤ 140737488355328 ∧ c ≤ 140737488355328) ∧
      K (.ref n 0 l.toNat) (h.set n (.arr s (List.replicate l.toNat zero))) (n + 1)
  | .slc s lo hi, .ref id off len :: r => (match optArgs lo hi r len, h id with
    | some (a, b), some (.arr z _) => (0 ≤ a ∧ a ≤ b ∧ b ≤ len) ∧ chk (Nat.beq z s) (K (.ref id (off + a.toNat) (b - a).toNat) h n)
    | _, _ => False)
  | .slc s lo hi, .val rows :: r => (match optArgs lo hi r rows.length with
    | some (a, b) => (0 ≤ a ∧ a ≤ b ∧ b ≤ rows.length) ∧ (∀ r ∈ rows, r.length = s) ∧ K (.val (sub rows a.toNat (b - a).toNat)) h n
    | Option.none => False)
  | .sls lo hi, .str s :: r => (match optArgs lo hi r s.length with
    | some (a, b) => (0 ≤ a ∧ a ≤ b ∧ b ≤ s.length) ∧ K (.str (sub s a.toNat (b - a).toNat)) h n
    | Option.none => False)
  | .app s bytes, [.ref id off len, x] => chk (Nat.beq off 0) (match h id, rowsOf h x with
    | some (.arr z rows), some more => chk (Nat.beq z s) ((∀ r ∈ more, r.length = s) ∧ (len ≤ rows.length ∧ (len + more.length) * bytes ≤ 140737488355328 ∧
        len + more.length ≤ 140737488355328) ∧ K (.ref n 0 (len + more.length)) ((h.del id).set n (.arr s (rows.take len ++ more))) (n + 1))
    | some o, none => (match o.rowsX, x.rowsX with
      | some (z, rows), some more => chk (Nat.beq z s) ((∀ r ∈ more, r.length = s) ∧ (len ≤ rows.length ∧ (len + more.length) * bytes ≤ 140737488355328 ∧
        len + more.length ≤ 140737488355328) ∧ K (.ref n 0 (len + more.length)) ((h.del id).set n (.arx s (rows.take len ++ more))) (n + 1))
      | _, _ => False)
    | _, _ => False)
  | .app s bytes, [.snil, x] => (match rowsOf h x with
    | some more => (∀ r ∈ more, r.length = s) ∧ (more.length * bytes ≤ 140737488355328 ∧ more.length ≤ 140737488355328) ∧
        K (.ref n 0 more.length) (h.set n (.arr s more)) (n + 1)
    | Option.none => False)
  | .slc3 s, [.ref id off len, .int _ b, .int _ m] => (0 ≤ b ∧ b ≤ m ∧ m ≤ len) ∧ (match h id with
    | some (.arr z _) => chk (Nat.beq z s) (K (.ref id off b.toNat) h n)
    | _ => False)
  | t, vs => sem t vs h n K

theorem semF_eq (tag : Tag) (vs : List AV) (h : Heap) (n : Nat) (K : Kont) : semF tag vs h n K = sem tag vs h n K := by
  unfold semF
  split
  all_goals simp only [sem, semBinF_eq, lenK_eq, rowsK_eq, forceRow_eq, chk_eq, Bool.and_eq_true, hasLen_iff, atLeast_iff, okcs_iff, okvs_iff, frees_iff, lones_iff, bsl_iff, clen_iff, Nat.beq_eq, Nat.ble_eq, and_assoc]
  all_goals (repeat' (split <;> (try rfl)))
  all_goals first | rfl | grind

def opX2 (C : CallF) (o : IOper) (e : Env) (h : Heap) (n : Nat) (K : Kont) : Prop :=
  match o.tag with
  | .call f => C f (o.args.map (Opd.ev e)) h n K
  | .dyn => (match o.args.map (Opd.ev e) with
    | .fn f caps :: r => C f (r ++ caps) h n K
    | _ => False)
  | t => semF t (o.args.map (Opd.ev e)) h n K

theorem opX2_eq (C : CallF) (o : IOper) (e : Env) (h : Heap) (n : Nat) (K : Kont) : opX2 C o e h n K = opX C o e h n K := by
  unfold opX2 opX
  cases o.tag <;> first | rfl | exact semF_eq _ _ _ _ _

def opK2 (Γ : Ctx) (o : IOper) (e : Env) (h : Heap) (n : Nat) (K : Kont) : Prop := opX2 (CK2 Γ) o e h n K
theorem opK2_eq (Γ : Ctx) (o : IOper) (e : Env) (h : Heap) (n : Nat) (K : Kont) : opK2 Γ o e h n K = opK Γ o e h n K := by
  unfold opK2 opK
  rw [CK2_eq, opX2_eq]

def opD2 (Γ : Ctx) (o : IOper) (e : Env) (h : Heap) (n : Nat) (K : Kont) : Prop := opX2 (CD Γ) o e h n K
theorem opD2_eq (Γ : Ctx) (o : IOper) (e : Env) (h : Heap) (n : Nat) (K : Kont) : opD2 Γ o e h n K = opD Γ o e h n K := opX2_eq _ _ _ _ _ _

/- (written with the recursors themselves: the kernel and the elaborator then evaluate to the same terms) -/
def regK2 (Γ : Ctx) (l : List IOper) : Env → Heap → Nat → (Env → Heap → Nat → Prop) → Prop :=
  List.rec (motive := fun _ => Env → Heap → Nat → (Env → Heap → Nat → Prop) → Prop) (fun e h n K => K e h n)
    (fun o _ ih e h n K => guardK2 o e (opK2 Γ o e h n fun v h' n' => forceT o.tag v fun v => ih (e.updo o.dst v) h' n' K) (ih (e.updo o.dst .undef) h n K)) l

theorem regK2_eq (Γ : Ctx) : ∀ (l : List IOper) (e : Env) (h : Heap) (n : Nat) (K : Env → Heap → Nat → Prop), regK2 Γ l e h n K = regK Γ l e h n K
  | [], e, h, n, K => rfl
  | o :: r, e, h, n, K => by
    show guardK2 o e (opK2 Γ o e h n fun v h' n' => forceT o.tag v fun v => regK2 Γ r (e.updo o.dst v) h' n' K) (regK2 Γ r (e.updo o.dst .undef) h n K) = _
    simp only [regK, guardK2_eq, opK2_eq, regK2_eq Γ r, forceT_eq]

def drwK2 (Γ : Ctx) (l : List IOper) : Env → Heap → Nat → (Env → Heap → Nat → Prop) → Prop :=
  List.rec (motive := fun _ => Env → Heap → Nat → (Env → Heap → Nat → Prop) → Prop) (fun e h n K => K e h n)
    (fun o _ ih e h n K => guardK2 o e (opD2 Γ o e h n fun v h' n' => forceT o.tag v fun v => ih (e.updo o.dst v) h' n' K) (ih (e.updo o.dst .undef) h n K)) l

theorem drwK2_eq (Γ : Ctx) : ∀ (l : List IOper) (e : Env) (h : Heap) (n : Nat) (K : Env → Heap → Nat → Prop), drwK2 Γ l e h n K = drwK Γ l e h n K
  | [], e, h, n, K => rfl
  | o :: r, e, h, n, K => by
    show guardK2 o e (opD2 Γ o e h n fun v h' n' => forceT o.tag v fun v => drwK2 Γ r (e.updo o.dst v) h' n' K) (drwK2 Γ r (e.updo o.dst .undef) h n K) = _
    simp only [drwK, guardK2_eq, opD2_eq, drwK2_eq Γ r, forceT_eq]

def vc2 (P : Program) (N k : Nat) (Γ : Ctx) (ic : ICode) : XK → Env → Heap → Nat → Prop :=
  ICode.rec (motive := fun _ => XK → Env → Heap → Nat → Prop)
    (fun K e h n => K .normal e h n)
    (fun ios K e h n => regK2 Γ ios e h n (K .normal))
    (fun ios _ b1 _ K e h n => match b1 with
      | true => drwK2 Γ ios e h n (K .normal)
      | false => False)
    (fun _ _ va vb K e h n => va (thenK (vb K) K) e h n)
    (fun z _ _ vx vy K e h n => condK2 (z.ev e) (vx K e h n) (vy K e h n))
    (fun id _ vb K e h n => vb (blockK id K) e h n)
    (fun b _ K e h n => Lp P N k b K e h n)
    (fun id K e h n => K (.exit id) e h n)
    (fun K e h n => K .ret e h n) ic

theorem vc2_eq (P : Program) (N k : Nat) (Γ : Ctx) : ∀ (ic : ICode) (K : XK) (e : Env) (h : Heap) (n : Nat), vc2 P N k Γ ic K e h n = vc P N k Γ ic K e h n
  | .skip, _, _, _, _ => rfl
  | .reg ios, K, e, h, n => by show regK2 Γ ios e h n (K .normal) = _; simp only [vc, regK2_eq]
  | .drw ios us true b2, K, e, h, n => by show drwK2 Γ ios e h n (K .normal) = _; simp only [vc, drwK2_eq]
  | .drw ios us false b2, K, e, h, n => rfl
  | .seq a b, K, e, h, n => by
    have hb : vc2 P N k Γ b K = vc P N k Γ b K := by funext e h n; exact vc2_eq P N k Γ b K e h n
    show vc2 P N k Γ a (thenK (vc2 P N k Γ b K) K) e h n = _
    simp only [vc, hb, vc2_eq P N k Γ a]
  | .cond z x y, K, e, h, n => by
    show condK2 (z.ev e) (vc2 P N k Γ x K e h n) (vc2 P N k Γ y K e h n) = _
    simp only [vc, condK2_eq, vc2_eq P N k Γ x, vc2_eq P N k Γ y]
  | .block id b, K, e, h, n => by
    show vc2 P N k Γ b (blockK id K) e h n = _
    simp only [vc, vc2_eq P N k Γ b]
  | .loop b, _, _, _, _ => rfl
  | .exit id, _, _, _, _ => rfl
  | .ret, _, _, _, _ => rfl

/-- all that a call is handed is there -/
theorem live_all {h : Heap} {l : List Nat} (hh : l.all (fun id => (h id).isSome) = true) : ∀ id ∈ l, (h id).isSome = true := by
  simpa using hh

theorem vc2_sound {P : Program} {N k : Nat} {Γ : Ctx} (hR : Rely P Γ) (ic : ICode) (K : XK) (e : Env) (h : Heap) (n : Nat) (hv : vc2 P N k Γ ic K e h n) : Aw P N k ic K e h n :=
  vc_sound hR ic K e h n (by rw [← vc2_eq]; exact hv)

end Go.Proofs.Ytpfbkblgefddlaa.Av
