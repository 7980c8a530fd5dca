/- Typed operations of the printed functions, loops, and the rules that walk the code beside them. -/
import Derived.Test.YtmngkcpobmhnoaaGreatDoorKS2
set_option linter.all false
namespace Go.Proofs.YtmngkcpobmhnoaaGreatDoor.Sim


inductive Ex2 (A B : Type) | a (x : A) | b (x : B)
theorem bnd {A B : Type} {m : Option A} {k : A → Option B} {r : B} (h : (m >>= k) = some r) : ∃ x, m = some x ∧ k x = some r := by
  cases m with
  | none => cases h
  | some x => exact ⟨x, rfl, h⟩

theorem bnd1 {A0 B : Type} {m : Option (A0)} {k : A0 → Option B} {r : B} {P : Prop} (hb : (m >>= k) = some r) (h : ∀ a0, m = some a0 → k a0 = some r → P) : P := by
  obtain ⟨x, h1, h2⟩ := bnd hb
  exact h x h1 h2
theorem bnd2 {A0 A1 B : Type} {m : Option (A0 × A1)} {k : A0 × A1 → Option B} {r : B} {P : Prop} (hb : (m >>= k) = some r) (h : ∀ a0 a1, m = some (a0, a1) → k (a0, a1) = some r → P) : P := by
  obtain ⟨x, h1, h2⟩ := bnd hb
  exact h x.1 x.2 h1 h2
theorem bnd3 {A0 A1 A2 B : Type} {m : Option (A0 × A1 × A2)} {k : A0 × A1 × A2 → Option B} {r : B} {P : Prop} (hb : (m >>= k) = some r) (h : ∀ a0 a1 a2, m = some (a0, a1, a2) → k (a0, a1, a2) = some r → P) : P := by
  obtain ⟨x, h1, h2⟩ := bnd hb
  exact h x.1 x.2.1 x.2.2 h1 h2
theorem bnd4 {A0 A1 A2 A3 B : Type} {m : Option (A0 × A1 × A2 × A3)} {k : A0 × A1 × A2 × A3 → Option B} {r : B} {P : Prop} (hb : (m >>= k) = some r) (h : ∀ a0 a1 a2 a3, m = some (a0, a1, a2, a3) → k (a0, a1, a2, a3) = some r → P) : P := by
  obtain ⟨x, h1, h2⟩ := bnd hb
  exact h x.1 x.2.1 x.2.2.1 x.2.2.2 h1 h2
def loopO {S X : Type} (body : S → Option (S ⊕ X)) (s : S) : Option X :=
  body s >>= fun r => match r with
    | .inl s' => loopO body s'
    | .inr x => some x
partial_fixpoint

def Nx {S X : Type} (P : S → X → Prop) : S ⊕ X → X → Prop
  | .inl s', x => P s' x
  | .inr y, x => y = x

theorem loopO_ind {S X : Type} {body : S → Option (S ⊕ X)} (P : S → X → Prop) (hs : ∀ s r, body s = some r → ∀ x, Nx P r x → P s x) : ∀ s x, loopO body s = some x → P s x := by
  refine loopO.partial_correctness body P ?_
  intro lp ih s x h
  obtain ⟨r, h1, h2⟩ := bnd h
  refine hs s r h1 x ?_
  cases r with
  | inl s' => exact ih _ _ h2
  | inr y => cases h2; rfl

theorem loopO_inl {S X : Type} {body : S → Option (S ⊕ X)} {s s' : S} (h : body s = some (.inl s')) : loopO body s = loopO body s' := by
  rw [loopO, h]; rfl
theorem loopO_inr {S X : Type} {body : S → Option (S ⊕ X)} {s : S} {x : X} (h : body s = some (.inr x)) : loopO body s = some x := by
  rw [loopO, h]; rfl

def Nx1 {A0 X : Type} (P : A0 → X → Prop) : (A0) ⊕ X → X → Prop
  | .inl s, x => P s x
  | .inr y, x => y = x
theorem loop1 {A0 X : Type} {body : (A0) → Option ((A0) ⊕ X)} (P : A0 → X → Prop) (hs : ∀ (a0 : A0) r, body a0 = some r → ∀ x, Nx1 P r x → P a0 x) (a0 : A0) (x : X) (h : loopO body a0 = some x) : P a0 x :=
  loopO_ind (fun s x => P s x) (fun s r hb x hn => hs s r hb x (by cases r <;> exact hn)) a0 x h
theorem loop1' {A0 X : Type} {body : (A0) → Option ((A0) ⊕ X)} {P : A0 → X → Prop} (hs : ∀ (a0 : A0) r, body a0 = some r → ∀ x, Nx1 P r x → P a0 x) : ∀ (a0 : A0) (x : X), loopO body a0 = some x → P a0 x := fun a0 x h => loop1 P hs a0 x h
def Nx2 {A0 A1 X : Type} (P : A0 → A1 → X → Prop) : (A0 × A1) ⊕ X → X → Prop
  | .inl s, x => P s.1 s.2 x
  | .inr y, x => y = x
theorem loop2 {A0 A1 X : Type} {body : (A0 × A1) → Option ((A0 × A1) ⊕ X)} (P : A0 → A1 → X → Prop) (hs : ∀ (a0 : A0) (a1 : A1) r, body (a0, a1) = some r → ∀ x, Nx2 P r x → P a0 a1 x) (a0 : A0) (a1 : A1) (x : X) (h : loopO body (a0, a1) = some x) : P a0 a1 x :=
  loopO_ind (fun s x => P s.1 s.2 x) (fun s r hb x hn => hs s.1 s.2 r hb x (by cases r <;> exact hn)) (a0, a1) x h
theorem loop2' {A0 A1 X : Type} {body : (A0 × A1) → Option ((A0 × A1) ⊕ X)} {P : A0 → A1 → X → Prop} (hs : ∀ (a0 : A0) (a1 : A1) r, body (a0, a1) = some r → ∀ x, Nx2 P r x → P a0 a1 x) : ∀ (a0 : A0) (a1 : A1) (x : X), loopO body (a0, a1) = some x → P a0 a1 x := fun a0 a1 x h => loop2 P hs a0 a1 x h
def Nx3 {A0 A1 A2 X : Type} (P : A0 → A1 → A2 → X → Prop) : (A0 × A1 × A2) ⊕ X → X → Prop
  | .inl s, x => P s.1 s.2.1 s.2.2 x
  | .inr y, x => y = x
theorem loop3 {A0 A1 A2 X : Type} {body : (A0 × A1 × A2) → Option ((A0 × A1 × A2) ⊕ X)} (P : A0 → A1 → A2 → X → Prop) (hs : ∀ (a0 : A0) (a1 : A1) (a2 : A2) r, body (a0, a1, a2) = some r → ∀ x, Nx3 P r x → P a0 a1 a2 x) (a0 : A0) (a1 : A1) (a2 : A2) (x : X) (h : loopO body (a0, a1, a2) = some x) : P a0 a1 a2 x :=
  loopO_ind (fun s x => P s.1 s.2.1 s.2.2 x) (fun s r hb x hn => hs s.1 s.2.1 s.2.2 r hb x (by cases r <;> exact hn)) (a0, a1, a2) x h
theorem loop3' {A0 A1 A2 X : Type} {body : (A0 × A1 × A2) → Option ((A0 × A1 × A2) ⊕ X)} {P : A0 → A1 → A2 → X → Prop} (hs : ∀ (a0 : A0) (a1 : A1) (a2 : A2) r, body (a0, a1, a2) = some r → ∀ x, Nx3 P r x → P a0 a1 a2 x) : ∀ (a0 : A0) (a1 : A1) (a2 : A2) (x : X), loopO body (a0, a1, a2) = some x → P a0 a1 a2 x := fun a0 a1 a2 x h => loop3 P hs a0 a1 a2 x h
def Nx4 {A0 A1 A2 A3 X : Type} (P : A0 → A1 → A2 → A3 → X → Prop) : (A0 × A1 × A2 × A3) ⊕ X → X → Prop
  | .inl s, x => P s.1 s.2.1 s.2.2.1 s.2.2.2 x
  | .inr y, x => y = x
theorem loop4 {A0 A1 A2 A3 X : Type} {body : (A0 × A1 × A2 × A3) → Option ((A0 × A1 × A2 × A3) ⊕ X)} (P : A0 → A1 → A2 → A3 → X → Prop) (hs : ∀ (a0 : A0) (a1 : A1) (a2 : A2) (a3 : A3) r, body (a0, a1, a2, a3) = some r → ∀ x, Nx4 P r x → P a0 a1 a2 a3 x) (a0 : A0) (a1 : A1) (a2 : A2) (a3 : A3) (x : X) (h : loopO body (a0, a1, a2, a3) = some x) : P a0 a1 a2 a3 x :=
  loopO_ind (fun s x => P s.1 s.2.1 s.2.2.1 s.2.2.2 x) (fun s r hb x hn => hs s.1 s.2.1 s.2.2.1 s.2.2.2 r hb x (by cases r <;> exact hn)) (a0, a1, a2, a3) x h
theorem loop4' {A0 A1 A2 A3 X : Type} {body : (A0 × A1 × A2 × A3) → Option ((A0 × A1 × A2 × A3) ⊕ X)} {P : A0 → A1 → A2 → A3 → X → Prop} (hs : ∀ (a0 : A0) (a1 : A1) (a2 : A2) (a3 : A3) r, body (a0, a1, a2, a3) = some r → ∀ x, Nx4 P r x → P a0 a1 a2 a3 x) : ∀ (a0 : A0) (a1 : A1) (a2 : A2) (a3 : A3) (x : X), loopO body (a0, a1, a2, a3) = some x → P a0 a1 a2 a3 x := fun a0 a1 a2 a3 x h => loop4 P hs a0 a1 a2 a3 x h
def Nx6 {A0 A1 A2 A3 A4 A5 X : Type} (P : A0 → A1 → A2 → A3 → A4 → A5 → X → Prop) : (A0 × A1 × A2 × A3 × A4 × A5) ⊕ X → X → Prop
  | .inl s, x => P s.1 s.2.1 s.2.2.1 s.2.2.2.1 s.2.2.2.2.1 s.2.2.2.2.2 x
  | .inr y, x => y = x
theorem loop6 {A0 A1 A2 A3 A4 A5 X : Type} {body : (A0 × A1 × A2 × A3 × A4 × A5) → Option ((A0 × A1 × A2 × A3 × A4 × A5) ⊕ X)} (P : A0 → A1 → A2 → A3 → A4 → A5 → X → Prop) (hs : ∀ (a0 : A0) (a1 : A1) (a2 : A2) (a3 : A3) (a4 : A4) (a5 : A5) r, body (a0, a1, a2, a3, a4, a5) = some r → ∀ x, Nx6 P r x → P a0 a1 a2 a3 a4 a5 x) (a0 : A0) (a1 : A1) (a2 : A2) (a3 : A3) (a4 : A4) (a5 : A5) (x : X) (h : loopO body (a0, a1, a2, a3, a4, a5) = some x) : P a0 a1 a2 a3 a4 a5 x :=
  loopO_ind (fun s x => P s.1 s.2.1 s.2.2.1 s.2.2.2.1 s.2.2.2.2.1 s.2.2.2.2.2 x) (fun s r hb x hn => hs s.1 s.2.1 s.2.2.1 s.2.2.2.1 s.2.2.2.2.1 s.2.2.2.2.2 r hb x (by cases r <;> exact hn)) (a0, a1, a2, a3, a4, a5) x h
theorem loop6' {A0 A1 A2 A3 A4 A5 X : Type} {body : (A0 × A1 × A2 × A3 × A4 × A5) → Option ((A0 × A1 × A2 × A3 × A4 × A5) ⊕ X)} {P : A0 → A1 → A2 → A3 → A4 → A5 → X → Prop} (hs : ∀ (a0 : A0) (a1 : A1) (a2 : A2) (a3 : A3) (a4 : A4) (a5 : A5) r, body (a0, a1, a2, a3, a4, a5) = some r → ∀ x, Nx6 P r x → P a0 a1 a2 a3 a4 a5 x) : ∀ (a0 : A0) (a1 : A1) (a2 : A2) (a3 : A3) (a4 : A4) (a5 : A5) (x : X), loopO body (a0, a1, a2, a3, a4, a5) = some x → P a0 a1 a2 a3 a4 a5 x := fun a0 a1 a2 a3 a4 a5 x h => loop6 P hs a0 a1 a2 a3 a4 a5 x h
theorem wq_def {E : Env} {c c' : RCode} {κ : Kt} {f : Fr} {h : Heap} {t : Blk κ} (hc : c = c') (hw : Wq E c' κ .mk f h) : Wq E c κ t f h := by subst hc; exact hw
theorem wq_join {E : Env} {c : RCode} {B : Nat → K} {N0 R : K} {f : Fr} {h : Heap} {t : Blk (⟨N0, B, R⟩ : Kt)} (Q : K → Prop) (h1 : ∀ X, Q X → Wq E c ⟨X, B, R⟩ .mk f h) (h2 : Q N0) : Wq E c ⟨N0, B, R⟩ t f h := h1 N0 h2

def PureE (E : Env) (g : FuncId) (args : List PV) (N : PV → Prop) : Prop := ∃ v, PureC E g args v ∧ N v
def End (N : PV → Prop) (v : PV) : Prop := N v
def EndH (N : PV → Heap → Prop) (v : PV) (h : Heap) : Prop := N v h
theorem endI {N : PV → Prop} {v : PV} (h : N v) : End N v := h
theorem endHI {N : PV → Heap → Prop} {v : PV} {h : Heap} (hn : N v h) : EndH N v h := hn

def outR (rs : List RRes) (f : Fr) (h : Heap) : Option PV := packO (resAll f h rs)
theorem out_r {rs : List RRes} {f : Fr} {h : Heap} : outR rs f h = packO (resAll f h rs) := nr rfl
theorem pureE_ok {E : Env} {g : FuncId} {np nt : Nat} {rs : List RRes} {bd : RCode} (hR : E.fn g = some ⟨np, nt, rs, bd⟩) {args : List PV} {N : PV → Prop} (hl : args.length = np)
    (hw : Wq E bd ⟨fun f h => ∃ v, st3O (outR rs f h) = some v ∧ End N v, fun _ _ _ => False, fun f h => ∃ v, st3O (outR rs f h) = some v ∧ End N v⟩ .mk (frameOf args 0) Heap.empty) :
    PureE E g args N := by
  generalize hRR : (⟨np, nt, rs, bd⟩ : RFunc) = R at hR
  have hl : args.length = R.np := by rw [← hRR]; exact hl
  have hw : Wq E R.body ⟨fun f h => ∃ v, st3O (outP R f h) = some v ∧ End N v, fun _ _ _ => False, fun f h => ∃ v, st3O (outP R f h) = some v ∧ End N v⟩ .mk (frameOf args 0) Heap.empty := by
    subst hRR; exact hw
  clear hRR
  obtain ⟨k, e, f1, h1, a1, a2⟩ := wp_sound _ hw
  have key : (∃ v, st3O (outP R f1 h1) = some v ∧ End N v) → (e = .normal ∨ e = .ret) → PureE E g args N := by
    rintro ⟨v, e1, hv⟩ he
    refine ⟨v, ⟨k, ?_⟩, hv⟩
    have : enterP (den E k) R args Heap.empty = (outP R f1 h1).map fun v => (v, h1) := by
      rcases he with rfl | rfl
      · simp only [enterP, if_pos hl, a1, outP]; cases mapO (resP f1 h1) R.results <;> rfl
      · simp only [enterP, if_pos hl, a1, outP]; cases mapO (resP f1 h1) R.results <;> rfl
    simp only [pureP, hR, Option.bind_some, this]
    rw [← e1]
    cases outP R f1 h1 <;> rfl
  cases e with
  | normal => exact key a2 (.inl rfl)
  | exit i => exact a2.elim
  | ret => exact key a2 (.inr rfl)

theorem callE_ok {E : Env} {h : Heap} {g : FuncId} {np nt : Nat} {rs : List RRes} {bd : RCode} (hR : E.fn g = some ⟨np, nt, rs, bd⟩) {args : List PV} {N : PV → Heap → Prop} (hl : args.length = np)
    (hw : Wq E bd ⟨fun f h => ∃ v, outR rs f h = some v ∧ EndH N v h, fun _ _ _ => False, fun f h => ∃ v, outR rs f h = some v ∧ EndH N v h⟩ .mk (frameOf args 0) h) :
    CallC E (.func g [] []) args h N := by
  refine callC_func hR (by simpa using hl) ?_
  have e : ([] ++ args ++ [] : List PV) = args := by simp
  rw [e]; exact hw

section
variable {E : Env} {h : Heap}

theorem fq_in {g : FuncId} {np nt : Nat} {rs : List RRes} {bd : RCode} {first cap args : List PV} {n : PV → Heap → Prop} {t : Blk n} (hR : E.fn g = some ⟨np, nt, rs, bd⟩) (hl : (first ++ args ++ cap).length = np)
    (hw : Wq E bd ⟨fun f h => ∃ v, outR rs f h = some v ∧ n v h, fun _ _ _ => False, fun f h => ∃ v, outR rs f h = some v ∧ n v h⟩ .mk (frameOf (first ++ args ++ cap) 0) h) :
    Fq E (.func g first cap) args h n t := call_ok hR hl hw
theorem pq_in {g : FuncId} {as : List PV} {N n : PV → Prop} {t : Blk n} (hp : PureE E g as N) (hn : ∀ v, N v → n v) : Pq E g (some as) n t := by
  obtain ⟨v, h1, h2⟩ := hp
  exact ⟨as, v, rfl, h1, hn v h2⟩
theorem pq_eq {g : FuncId} {as : List PV} {v : PV} {n : PV → Prop} {t : Blk n} (hp : PureE E g as (fun w => w = v)) (hn : n v) : Pq E g (some as) n t := by
  obtain ⟨v, h1, rfl⟩ := hp
  exact ⟨as, v, rfl, h1, hn⟩
theorem pq_in1 {g : FuncId} {as : List PV} {p : Own → Nat → List (List PV) → PV} {S : Own → Nat → List (List PV) → Prop} {n : PV → Prop} {t : Blk n} (hp : PureE E g as (fun v => ∃ o0 e0 M0, v = p o0 e0 M0 ∧ S o0 e0 M0)) (hn : ∀ o0 e0 M0, S o0 e0 M0 → n (p o0 e0 M0)) : Pq E g (some as) n t := by
  refine pq_in hp ?_
  rintro _ ⟨o0, e0, M0, rfl, h⟩
  exact hn o0 e0 M0 h
theorem fq_mono0 {g : PV} {args : List PV} {p : PV} {S : Heap → Prop} {n : PV → Heap → Prop} {t : Blk n} (hc : CallC E g args h (fun v h' => v = p ∧ S h')) (hn : ∀ h', S h' → n p h') : Fq E g args h n t := by
  refine fq_mono hc ?_
  rintro _ h' ⟨rfl, h⟩
  exact hn h' h
theorem hq_in {g : FuncId} {as : List PV} {v : PV} {n : PV → Prop} {t : Blk n} (hp : E.orc g as = some v) (hn : n v) : Hq E g (some as) n t := ⟨as, v, rfl, hp, hn⟩

theorem bq_if {A : Type} {c b : Bool} {x y : Option A} {r : A} {X Y : Prop} {s : Blk X} {t : Blk Y} (hb : (if c = true then x else y) = some r) (e : b = c)
    (h1 : c = true → x = some r → X) (h2 : c = false → y = some r → Y) : Bq b X Y s t := by
  subst e
  cases b with
  | true => exact ⟨fun _ => h1 rfl (by simpa using hb), fun h => by cases h⟩
  | false => exact ⟨(fun h => by cases h), fun _ => h2 rfl (by simpa using hb)⟩
theorem vq_mk {v : PV} {h' : Heap} {o : Option (PV × Heap)} {n : PV → Heap → Prop} {t : Blk n} (e : o = some (v, h')) (hn : n v h') : Vq o n t := ⟨v, h', e, hn⟩

def stO : Own → Own
  | .nil => .nil
  | .full => .full
  | _ => .shared
theorem st1_sl {o : Own} {e : Nat} {M : List (List PV)} : PV.st1 (.slice o e M) = some (.slice (stO o) e M) := by cases o <;> rfl
theorem st2_sl {o : Own} {e : Nat} {M : List (List PV)} : PV.st2 (.slice o e M) = some (.slice (stO o) e M) := by cases o <;> rfl
theorem st3_sl {o : Own} {e : Nat} {M : List (List PV)} : PV.st3 (.slice o e M) = some (.slice (stO o) e M) := by cases o <;> rfl

structure SlR {T : Type} (es : Nat) (R : T → List PV → Prop) (o : Own) (e : Nat) (L : List T) (M : List (List PV)) : Prop where
  ok : e = es ∨ (o = .nil ∧ L = [])
  nil : o = .nil → L = []
  len : M.length = L.length
  get : ∀ (i : Nat) (x : T) (cs : List PV), L[i]? = some x → M[i]? = some cs → R x cs

def RI (k : IntKind) (x : Int) (cs : List PV) : Prop := cs = [.int k x]
def R8 (x : UInt8) (cs : List PV) : Prop := cs = byteCell x
inductive Ifc | nil | opq | int (t : Nat) (k : IntKind) (n : Int)
  deriving Inhabited
def Ifc.pv : Ifc → PV
  | .nil => .nilIface
  | .opq => .ifc
  | .int t k n => .ifcI t k n
def Ifc.isNil : Ifc → Bool
  | .nil => true
  | _ => false
theorem ifc_nil : Ifc.pv .nil = .nilIface := nr rfl
theorem ifc_opq : Ifc.pv .opq = .ifc := nr rfl
theorem ifc_int {t : Nat} {k : IntKind} {n : Int} : Ifc.pv (.int t k n) = .ifcI t k n := nr rfl
theorem ifc_st1 {x : Ifc} : PV.st1 x.pv = some x.pv := by cases x <;> rfl
theorem ifc_st2 {x : Ifc} : PV.st2 x.pv = some x.pv := by cases x <;> rfl
theorem ifc_st3 {x : Ifc} : PV.st3 x.pv = some x.pv := by cases x <;> rfl
theorem ifc_one {x : Ifc} : PV.one x.pv = true := by cases x <;> rfl
theorem ifc_cells {x : Ifc} : PV.cells x.pv = [x.pv] := by cases x <;> rfl
theorem ifc_eqn {x : Ifc} : binP .eql .iface x.pv .nilIface = some (.bool x.isNil) := by cases x <;> rfl
theorem ifc_neqn {x : Ifc} : binP .neq .iface x.pv .nilIface = some (.bool !x.isNil) := by cases x <;> rfl
def eqI (ts : List TypeId) (x y : Ifc) : Option Bool := eqP (.ifaceI ts) x.pv y.pv
section
variable {T : Type} {es : Nat} {R : T → List PV → Prop} {o : Own} {e : Nat} {L : List T} {M : List (List PV)}
theorem SlR.esok (hs : SlR es R o e L M) : esOk es (.slice o e M) = true := by
  rcases hs.ok with rfl | ⟨rfl, _⟩
  · cases o <;> simp [esOk]
  · simp [esOk]
theorem SlR.st (hs : SlR es R o e L M) : SlR es R (stO o) e L M := ⟨by
  rcases hs.ok with h | ⟨rfl, h⟩
  · exact .inl h
  · exact .inr ⟨rfl, h⟩, fun h => hs.nil (by cases o <;> simp_all [stO]), hs.len, hs.get⟩
theorem slr_nil {e : Nat} : SlR (T := T) es R .nil e [] [] := ⟨.inr ⟨rfl, rfl⟩, fun _ => rfl, rfl, fun i x cs h => by simp at h⟩
theorem slr_0 {o : Own} : SlR (T := T) es R o es [] [] := ⟨.inl rfl, fun _ => rfl, rfl, fun i x cs h => by simp at h⟩
theorem slr_cons {o : Own} {x : T} {cs : List PV} (ho : o ≠ .nil) (hx : R x cs) (hs : SlR es R o es L M) : SlR es R o es (x :: L) (cs :: M) :=
  ⟨.inl rfl, fun h => absurd h ho, by simp [hs.len], fun i y ds h1 h2 => by
    cases i with
    | zero => simp at h1 h2; subst h1; subst h2; exact hx
    | succ i => simp at h1 h2; exact hs.get i y ds h1 h2⟩
theorem slr_bytes {o : Own} {s : List UInt8} (ho : o ≠ .nil) : SlR 1 R8 o 1 s (s.map byteCell) :=
  ⟨.inl rfl, fun h => absurd h ho, by simp, fun i x cs h1 h2 => by simp [h1] at h2; exact h2.symm⟩
theorem SlR.bytes {s : List UInt8} {o : Own} {e : Nat} (hs : SlR 1 R8 o e s M) : M = s.map byteCell := by
  apply List.ext_getElem?
  intro i
  rw [List.getElem?_map]
  cases h1 : s[i]? with
  | none =>
    have : s.length ≤ i := by simpa using h1
    simp [List.getElem?_eq_none (show M.length ≤ i by rw [hs.len]; exact this)]
  | some x =>
    have hi : i < M.length := by rw [hs.len]; exact (List.getElem?_eq_some_iff.1 h1).1
    have := hs.get i x M[i] h1 (List.getElem?_eq_getElem hi)
    rw [List.getElem?_eq_getElem hi]
    simp only [Option.map_some]
    exact congrArg some this
theorem SlR.own (hs : SlR es R o e L M) {o' : Own} (ho : o' = .nil → o = .nil) (ho2 : o = .nil → o' = .nil) : SlR es R o' e L M :=
  ⟨by rcases hs.ok with h | ⟨h1, h2⟩; exact .inl h; exact .inr ⟨ho2 h1, h2⟩, fun h => hs.nil (ho h), hs.len, hs.get⟩
end

section
variable {A T : Type} {r : A} {n : PV → Heap → Prop} {t : Blk n} {k : IntKind}

def idx (L : List T) (i : Int) : Option T := if 0 ≤ i then L[i.toNat]? else none
theorem idx_some {L : List T} {i : Int} {x : T} (h : idx L i = some x) : 0 ≤ i ∧ L[i.toNat]? = some x := by
  unfold idx at h; split at h
  · exact ⟨‹_›, h⟩
  · cases h
theorem vq_idxS {s : List UInt8} {i : Int} {K : UInt8 → Option A} (hb : (idx s i >>= K) = some r) (hn : ∀ x, idx s i = some x → K x = some r → n (.int .u8 x.toNat) h) : Vq (indexSP (.str s) (.int k i) h) n t := by
  obtain ⟨x, hx, hb⟩ := bnd hb
  obtain ⟨h0, h1⟩ := idx_some hx
  exact vq_mk (by simp [indexSP, h0, h1]) (hn x hx hb)
theorem vq_iaddr {es e : Nat} {R : T → List PV → Prop} {o : Own} {L : List T} {M : List (List PV)} (hs : SlR es R o e L M) {i : Int} {K : T → Option A} (hb : (idx L i >>= K) = some r)
    (hn : ∀ x cs, idx L i = some x → K x = some r → R x cs → n (.cptr cs 0) h) : Vq (iaddrP es (.slice o e M) (.int k i) h) n t := by
  obtain ⟨x, hx, hb⟩ := bnd hb
  obtain ⟨h0, h1⟩ := idx_some hx
  have hi : i.toNat < M.length := by rw [hs.len]; exact (List.getElem?_eq_some_iff.1 h1).1
  have he : e = es := by
    rcases hs.ok with h | ⟨_, h⟩
    · exact h
    · rw [h] at h1; simp at h1
  have h2 := List.getElem?_eq_getElem hi
  exact vq_mk (by simp [iaddrP, h0, he, h2]) (hn x _ hx hb (hs.get _ _ _ h1 h2))
theorem vq_idxA {enc : T → PV} {L : List T} {cs : List PV} (hcs : cs = L.map enc) {len : Nat} (hl : len = L.length) {i : Int} {K : T → Option A} (hb : (idx L i >>= K) = some r)
    (hn : ∀ x, idx L i = some x → K x = some r → n (enc x) h) : Vq (indexAP len 1 none (.agg cs) (.int k i) h) n t := by
  obtain ⟨x, hx, hb⟩ := bnd hb
  obtain ⟨h0, h1⟩ := idx_some hx
  have hi : i.toNat < L.length := (List.getElem?_eq_some_iff.1 h1).1
  refine vq_mk (v := enc x) (h' := h) ?_ (hn x hx hb)
  have : 0 ≤ i ∧ i < len := ⟨h0, by omega⟩
  simp [indexAP, this, readAt, hcs, h1]

def subF (L : List T) (a : Int) : Option (List T) := if 0 ≤ a ∧ a ≤ L.length then some (L.drop a.toNat) else none
def subT (L : List T) (b : Int) : Option (List T) := if 0 ≤ b ∧ b ≤ L.length then some (L.take b.toNat) else none
def subB (L : List T) (a b : Int) : Option (List T) := if 0 ≤ a ∧ a ≤ b ∧ b ≤ L.length then some ((L.take b.toNat).drop a.toNat) else none
theorem vq_subFs {s : List UInt8} {a : Int} {K : List UInt8 → Option A} (hb : (subF s a >>= K) = some r) (hn : ∀ x, subF s a = some x → K x = some r → n (.str x) h) : Vq (sliceSP (.str s) (some (.int k a)) none h) n t := by
  obtain ⟨x, hx, hb⟩ := bnd hb
  have hx' := hx
  unfold subF at hx; split at hx
  · cases hx; exact vq_mk (by rw [a_slS10, if_pos ‹_›]) (hn _ hx' hb)
  · cases hx
theorem vq_subTs {s : List UInt8} {a : Int} {K : List UInt8 → Option A} (hb : (subT s a >>= K) = some r) (hn : ∀ x, subT s a = some x → K x = some r → n (.str x) h) : Vq (sliceSP (.str s) none (some (.int k a)) h) n t := by
  obtain ⟨x, hx, hb⟩ := bnd hb
  have hx' := hx
  unfold subT at hx; split at hx
  · cases hx; exact vq_mk (by rw [a_slS01, if_pos ‹_›]) (hn _ hx' hb)
  · cases hx
theorem vq_subBs {s : List UInt8} {a b : Int} {k' : IntKind} {K : List UInt8 → Option A} (hb : (subB s a b >>= K) = some r) (hn : ∀ x, subB s a b = some x → K x = some r → n (.str x) h) : Vq (sliceSP (.str s) (some (.int k a)) (some (.int k' b)) h) n t := by
  obtain ⟨x, hx, hb⟩ := bnd hb
  have hx' := hx
  unfold subB at hx; split at hx
  · cases hx; exact vq_mk (by rw [a_slS11, if_pos ‹_›]) (hn _ hx' hb)
  · cases hx
theorem slr_sub {es e : Nat} {R : T → List PV → Prop} {o o' : Own} {L : List T} {M : List (List PV)} (hs : SlR es R o e L M) (ho : o' = .nil → o = .nil) (ho2 : o = .nil → o' = .nil) (a b : Nat) : SlR es R o' e ((L.take b).drop a) ((M.take b).drop a) :=
  ⟨by rcases hs.ok with h | ⟨h1, h2⟩; exact .inl h; exact .inr ⟨ho2 h1, by simp [h2]⟩, fun h => by simp [hs.nil (ho h)], by simp [hs.len], fun i x cs h1 h2 => by
    simp only [List.getElem?_drop] at h1 h2
    rw [List.getElem?_take] at h1 h2
    split at h1
    · rename_i hi; rw [if_pos hi] at h2; exact hs.get _ _ _ h1 h2
    · cases h1⟩
theorem sub_nil {o : Own} {c : Prop} [Decidable c] : subOwn o c = .nil → o = .nil := by cases o <;> simp [subOwn]; all_goals (split <;> simp)
theorem sub_nil2 {o : Own} {c : Prop} [Decidable c] : o = .nil → subOwn o c = .nil := by rintro rfl; rfl
theorem vq_subF {es e : Nat} {R : T → List PV → Prop} {o : Own} {L : List T} {M : List (List PV)} (hs : SlR es R o e L M) {a : Int} {K : List T → Option A} (hb : (subF L a >>= K) = some r)
    (hn : ∀ x o' M', subF L a = some x → K x = some r → SlR es R o' e x M' → n (.slice o' e M') h) : Vq (sliceP es (.slice o e M) (some (.int k a)) none none h) n t := by
  obtain ⟨x, hx, hb⟩ := bnd hb
  have hx' := hx
  unfold subF at hx; split at hx
  · rename_i hc
    cases hx
    have hc' : 0 ≤ a ∧ a ≤ M.length := by rw [hs.len]; exact hc
    refine vq_mk (by rw [a_sl10 hs.esok, if_pos hc']) (hn _ _ _ hx' hb ?_)
    have := slr_sub hs (o' := subOwn o (a = 0)) sub_nil sub_nil2 a.toNat L.length
    rw [← hs.len, List.take_length, hs.len, List.take_length] at this
    exact this
  · cases hx
theorem vq_subT {es e : Nat} {R : T → List PV → Prop} {o : Own} {L : List T} {M : List (List PV)} (hs : SlR es R o e L M) {b : Int} {K : List T → Option A} (hb : (subT L b >>= K) = some r)
    (hn : ∀ x o' M', subT L b = some x → K x = some r → SlR es R o' e x M' → n (.slice o' e M') h) : Vq (sliceP es (.slice o e M) none (some (.int k b)) none h) n t := by
  obtain ⟨x, hx, hb⟩ := bnd hb
  have hx' := hx
  unfold subT at hx; split at hx
  · rename_i hc
    cases hx
    have hc' : 0 ≤ b ∧ b ≤ M.length := by rw [hs.len]; exact hc
    refine vq_mk (by rw [a_sl01 hs.esok, if_pos hc']) (hn _ _ _ hx' hb ?_)
    exact slr_sub hs (o' := subOwn o (b = M.length)) sub_nil sub_nil2 0 b.toNat
  · cases hx
def OwnOK (h : Heap) : Own → Prop
  | .nil => True
  | .own i _ => h.live i = true ∧ i < h.n
  | _ => False
def Dis (o o' : Own) : Prop := ∀ i b b', o = .own i b → o' ≠ .own i b'
theorem dis_symm {o o' : Own} (h : Dis o o') : Dis o' o := fun i b b' h1 h2 => h i b' b h2 h1
theorem dis_nil {o : Own} : Dis .nil o = True := eq_true fun i _ _ h => by cases h
theorem dis_nil' {o : Own} : Dis o .nil = True := eq_true fun i _ _ _ h => by cases h
theorem own_nil : OwnOK h .nil = True := rfl
theorem own_box {o : Own} {ty : TypeId} {cs : List PV} (ho : OwnOK h o) : OwnOK (h.newBox ty cs) o = True := eq_true (by
  cases o with
  | own i _ => exact ⟨ho.1, Nat.lt_succ_of_lt ho.2⟩
  | _ => exact ho)
theorem own_set {o : Own} {i : Nat} {cs : List PV} : OwnOK (h.setBox i cs) o = OwnOK h o := by cases o <;> rfl
theorem own_loop {o : Own} {r : LoopRec} (ho : OwnOK h o) : OwnOK (h.newLoop r) o = True := eq_true (by
  cases o with
  | own i _ => exact ⟨ho.1, Nat.lt_succ_of_lt ho.2⟩
  | _ => exact ho)
theorem own_sloop {o : Own} {i : Nat} {r : LoopRec} : OwnOK (h.setLoop i r) o = OwnOK h o := by cases o <;> rfl
theorem own_arr {o : Own} (ho : OwnOK h o) : OwnOK h.newArr o = True := eq_true (by
  cases o with
  | own i _ => exact ⟨by simp [Heap.newArr, ho.1], Nat.lt_succ_of_lt ho.2⟩
  | _ => exact ho)
theorem own_new {b : Bool} : OwnOK h.newArr (.own h.n b) = True := eq_true ⟨by simp [Heap.newArr], by simp [Heap.newArr]⟩
theorem dis_new {o : Own} {b : Bool} (ho : OwnOK h o) : Dis (.own h.n b) o = True := eq_true (by
  intro i _ _ h1 h2; cases h1; rw [h2] at ho; exact Nat.lt_irrefl _ ho.2)

def app (bytes : Nat) (L M : List T) : Option (List T) := if (2 * (L.length + M.length) + 1000) * bytes ≤ 140737488355328 then some (L ++ M) else none
theorem slr_app {es e e2 : Nat} {R : T → List PV → Prop} {o o2 o' : Own} {L L2 : List T} {M M2 : List (List PV)} (hs : SlR es R o e L M) (hs2 : SlR es R o2 e2 L2 M2) (ho : o' ≠ .nil) : SlR es R o' es (L ++ L2) (M ++ M2) :=
  ⟨.inl rfl, fun h => absurd h ho, by simp [hs.len, hs2.len], fun i x cs h1 h2 => by
    rw [List.getElem?_append] at h1 h2
    rw [hs.len] at h2
    split at h1
    · rename_i hi; rw [if_pos hi] at h2; exact hs.get _ _ _ h1 h2
    · rename_i hi; rw [if_neg hi] at h2; exact hs2.get _ _ _ h1 h2⟩
structure AppFr (o : Own) (h : Heap) (o' : Own) (h' : Heap) : Prop where
  n : h.n ≤ h'.n
  box : h'.box = h.box
  loop : h'.loop = h.loop
  bty : h'.bty = h.bty
  keep : ∀ o2, OwnOK h o2 → Dis o o2 → OwnOK h' o2 ∧ Dis o' o2
  live : ∀ i, i < h.n → (∀ b, o ≠ .own i b) → h'.live i = h.live i
  new : o' = .nil ∨ ∃ i b, o' = .own i b ∧ h.n ≤ i
theorem appP_ok {es by' e e2 : Nat} {u8 : Bool} {o : Own} {M M2 : List (List PV)} {y : PV} (hx : esOk es (.slice o e M) = true) (hy : esOk es y = true) (hO : OwnOK h o) (he : elemsOf u8 y = some M2) (hn : o = .nil → M = [])
    (hl : (2 * (M.length + M2.length) + 1000) * by' ≤ 140737488355328) : ∃ o' h', appP es by' u8 (.slice o e M) y h = some (.slice o' es (M ++ M2), h') ∧ OwnOK h' o' ∧ AppFr o h o' h' ∧ (o' = .nil → M2 = [] ∧ o = .nil) ∧ (u8 = true → (o = .nil ∨ ∃ i, o = .own i true) → o' = .nil ∨ ∃ i, o' = .own i true) := by
  cases o with
  | nil =>
    cases hn rfl
    by_cases hM : M2 = []
    · subst hM
      exact ⟨.nil, h, by simp only [appP, he, hx, hy, hl, and_self, if_true, List.isEmpty_nil, List.append_nil], trivial,
        ⟨Nat.le_refl _, rfl, rfl, rfl, fun o2 h1 _ => ⟨h1, fun i _ _ h => by cases h⟩, fun i _ _ => rfl, .inl rfl⟩, fun _ => ⟨rfl, rfl⟩, fun _ _ => .inl rfl⟩
    · have e0 : M2.isEmpty = false := by cases M2 <;> simp_all
      refine ⟨.own h.n u8, h.newArr, by simp only [appP, he, hx, hy, hl, and_self, if_true, e0, Bool.false_eq_true, if_false], ?_, ⟨Nat.le_succ _, rfl, rfl, rfl, fun o2 h1 _ => ⟨?_, ?_⟩, fun i hi _ => by simp [Heap.newArr, Nat.ne_of_lt hi], .inr ⟨_, _, rfl, Nat.le_refl _⟩⟩, (fun h => by cases h), fun h _ => .inr ⟨_, by rw [h]⟩⟩
      · rw [own_new]; trivial
      · rw [own_arr h1]; trivial
      · rw [dis_new h1]; trivial
  | own j ub =>
    obtain ⟨h1, h2⟩ := hO
    refine ⟨.own h.n (ub && u8), h.regrow j, by simp only [appP, he, hx, hy, hl, and_self, if_true, h1], ⟨by simp [Heap.regrow], by simp [Heap.regrow]⟩, ⟨Nat.le_succ _, rfl, rfl, rfl, fun o2 h3 h4 => ⟨?_, ?_⟩, fun i hi hne => ?_, .inr ⟨_, _, rfl, Nat.le_refl _⟩⟩, (fun h => by cases h), fun hu hu' => ?_⟩
    · cases o2 with
      | own i ub2 =>
        have : i ≠ j := fun e => h4 j ub ub2 rfl (by rw [e])
        exact ⟨by simp [Heap.regrow, this, Nat.ne_of_lt h3.2, h3.1], Nat.lt_succ_of_lt h3.2⟩
      | _ => exact h3
    · intro i _ _ e1 e2; cases e1; rw [e2] at h3; exact Nat.lt_irrefl _ h3.2
    · have : i ≠ j := fun e => hne ub (by rw [e])
      simp [Heap.regrow, this, Nat.ne_of_lt hi]
    · rcases hu' with h5 | ⟨i, h5⟩
      · cases h5
      · cases h5; exact .inr ⟨h.n, by rw [hu]; rfl⟩
  | full => exact hO.elim
  | shared => exact hO.elim
theorem vq_appB {es by' e e2 : Nat} {u8 : Bool} {R : T → List PV → Prop} {o o2 : Own} {L L2 : List T} {M M2 : List (List PV)} (hs : SlR es R o e L M) (hO : OwnOK h o) (hs2 : SlR es R o2 e2 L2 M2) {K : List T → Option A} (hb : (app by' L L2 >>= K) = some r)
    (hn : ∀ x o' M' h', app by' L L2 = some x → K x = some r → SlR es R o' es x M' → OwnOK h' o' → AppFr o h o' h' → (u8 = true → (o = .nil ∨ ∃ i, o = .own i true) → o' = .nil ∨ ∃ i, o' = .own i true) → n (.slice o' es M') h') : Vq (appP es by' u8 (.slice o e M) (.slice o2 e2 M2) h) n t := by
  obtain ⟨x, hx, hb⟩ := bnd hb
  have hx' := hx
  unfold app at hx; split at hx
  · rename_i hl
    cases hx
    obtain ⟨o', h', e1, e2', e3, e4, e5⟩ := appP_ok (h := h) (es := es) (by' := by') (e2 := e2) (u8 := u8) (y := .slice o2 e2 M2) (M2 := M2) hs.esok hs2.esok hO (by simp [elemsOf]) (fun h => by
      have := hs.nil h; have h2 := hs.len; rw [this] at h2; exact List.length_eq_zero_iff.1 h2) (by rw [hs.len, hs2.len]; exact hl)
    refine vq_mk e1 (hn _ _ _ _ hx' hb ?_ e2' e3 e5)
    refine ⟨.inl rfl, fun h => ?_, by simp [hs.len, hs2.len], ?_⟩
    · obtain ⟨h1, h2⟩ := e4 h
      have h3 := hs.nil h2
      have h4 := hs2.len; rw [h1] at h4
      rw [h3, List.length_eq_zero_iff.1 h4.symm]; rfl
    · exact (slr_app hs hs2 (o' := .shared) (by simp)).get
  · cases hx
theorem vq_app {es by' e e2 : Nat} {u8 : Bool} {R : T → List PV → Prop} {o o2 : Own} {L L2 : List T} {M M2 : List (List PV)} (hs : SlR es R o e L M) (hO : OwnOK h o) (hs2 : SlR es R o2 e2 L2 M2) {K : List T → Option A} (hb : (app by' L L2 >>= K) = some r)
    (hn : ∀ x o' M' h', app by' L L2 = some x → K x = some r → SlR es R o' es x M' → OwnOK h' o' → AppFr o h o' h' → n (.slice o' es M') h') : Vq (appP es by' u8 (.slice o e M) (.slice o2 e2 M2) h) n t :=
  vq_appB hs hO hs2 hb (fun x o' M' h' h1 h2 h3 h4 h5 _ => hn x o' M' h' h1 h2 h3 h4 h5)
theorem vq_new {es len : Nat} {o : Option (List PV)} {cs : List PV} (e : o = some cs) (hn : ∀ o' h', o' ≠ .nil → OwnOK h' o' → AppFr .nil h o' h' → n (.slice o' es (chunk es len cs)) h') : Vq (bslO es len o h) n t := by
  subst e
  refine vq_mk rfl (hn _ _ (by simp) (by rw [own_new]; trivial) ⟨Nat.le_succ _, rfl, rfl, rfl, fun o2 h1 _ => ⟨?_, ?_⟩, fun i hi _ => by simp [Heap.newArr, Nat.ne_of_lt hi], .inr ⟨_, _, rfl, Nat.le_refl _⟩⟩)
  · rw [own_arr h1]; trivial
  · rw [dis_new h1]; trivial
theorem vq_bsl {es len : Nat} {o : Option (List PV)} {cs : List PV} (e : o = some cs) (hn : n (.slice (.own h.n false) es (chunk es len cs)) h.newArr) : Vq (bslO es len o h) n t := by
  subst e; exact vq_mk rfl hn
theorem vq_s2b {s : List UInt8} (hn : ∀ o' M' h', SlR 1 R8 o' 1 s M' → OwnOK h' o' → AppFr .nil h o' h' → n (.slice o' 1 M') h') : Vq (convP .s2b (.str s) h) n t := by
  refine vq_mk rfl (hn _ _ _ (slr_bytes (by simp)) (by rw [own_new]; trivial) ⟨Nat.le_succ _, rfl, rfl, rfl, fun o2 h1 _ => ⟨?_, ?_⟩, fun i hi _ => by simp [Heap.newArr, Nat.ne_of_lt hi], .inr ⟨_, _, rfl, Nat.le_refl _⟩⟩)
  · rw [own_arr h1]; trivial
  · rw [dis_new h1]; trivial
theorem cells_bytes : ∀ (s : List UInt8), mapO cellByte (s.map byteCell) = some s
  | [] => rfl
  | c :: s => by simp [mapO, byteCell, cellByte, cells_bytes s]
def b8 (n : Int) : Option UInt8 := if 0 ≤ n ∧ n < 256 then some (UInt8.ofNat n.toNat) else none
theorem b8_some {n : Int} {c : UInt8} (h : b8 n = some c) : n = c.toNat := by
  unfold b8 at h; split at h
  · rename_i hc
    cases h
    have : (UInt8.ofNat n.toNat).toNat = n.toNat % 256 := by simp
    rw [this, Nat.mod_eq_of_lt (by omega)]; omega
  · cases h
theorem r8_of {n : Int} {c : UInt8} (h : b8 n = some c) : R8 c [.int .u8 n] := by rw [b8_some h]; rfl
theorem b8b {n : Int} {K : UInt8 → Option A} (hb : (b8 n >>= K) = some r) : ∃ c : UInt8, b8 n = some c ∧ n = c.toNat ∧ K c = some r := by
  obtain ⟨c, hc, hb⟩ := bnd hb
  exact ⟨c, hc, b8_some hc, hb⟩
theorem b8b1 {n : Int} {K : UInt8 → Option A} {P : Prop} (hb : (b8 n >>= K) = some r) (h : ∀ c : UInt8, b8 n = some c → n = c.toNat → K c = some r → P) : P := by
  obtain ⟨c, h1, h2, h3⟩ := b8b hb
  exact h c h1 h2 h3
def cat (s u : List UInt8) : Option (List UInt8) := if s.length + u.length ≤ 9223372036854775807 then some (s ++ u) else none
theorem vq_cat {e : EqK} {s u : List UInt8} {K : List UInt8 → Option A} (hb : (cat s u >>= K) = some r) (hn : ∀ x, cat s u = some x → K x = some r → n (.str x) h) : Vq (valP (binP .add e (.str s) (.str u)) h) n t := by
  obtain ⟨x, hx, hb⟩ := bnd hb
  have hx' := hx
  unfold cat at hx; split at hx
  · cases hx; exact vq_mk (by rw [a_sadd ‹_›]; rfl) (hn _ hx' hb)
  · cases hx
def quo (k : IntKind) (a b : Int) : Option Int := if b = 0 then none else some (k.wrap (a.tdiv b))
def rem (a b : Int) : Option Int := if b = 0 then none else some (a.tmod b)
def shl (k : IntKind) (a b : Int) : Option Int := if b < 0 then none else some (k.wrap (a * 2 ^ (min b.toNat k.bits)))
def shr (k : IntKind) (a b : Int) : Option Int := if b < 0 then none else some (a.fdiv (2 ^ (min b.toNat k.bits)))
theorem vq_quo {e : EqK} {a b : Int} {K : Int → Option A} (hb : (quo k a b >>= K) = some r) (hn : ∀ x, quo k a b = some x → K x = some r → n (.int k x) h) : Vq (valP (binP .quo e (.int k a) (.int k b)) h) n t := by
  obtain ⟨x, hx, hb⟩ := bnd hb
  have hx' := hx
  unfold quo at hx; split at hx
  · cases hx
  · cases hx; exact vq_mk (by rw [a_quo, if_pos ‹_›]; rfl) (hn _ hx' hb)
theorem vq_shl {e : EqK} {a b : Int} {k' : IntKind} {K : Int → Option A} (hb : (shl k a b >>= K) = some r) (hn : ∀ x, shl k a b = some x → K x = some r → n (.int k x) h) : Vq (valP (binP .shl e (.int k a) (.int k' b)) h) n t := by
  obtain ⟨x, hx, hb⟩ := bnd hb
  have hx' := hx
  unfold shl at hx; split at hx
  · cases hx
  · cases hx; exact vq_mk (by rw [a_shl, if_pos ‹_›]; rfl) (hn _ hx' hb)
theorem vq_shr {e : EqK} {a b : Int} {k' : IntKind} {K : Int → Option A} (hb : (shr k a b >>= K) = some r) (hn : ∀ x, shr k a b = some x → K x = some r → n (.int k x) h) : Vq (valP (binP .shr e (.int k a) (.int k' b)) h) n t := by
  obtain ⟨x, hx, hb⟩ := bnd hb
  have hx' := hx
  unfold shr at hx; split at hx
  · cases hx
  · cases hx; exact vq_mk (by rw [a_shr, if_pos ‹_›]; rfl) (hn _ hx' hb)
def band (k : IntKind) (a b : Int) : Int := k.wrap (BitVec.ofInt k.bits a &&& BitVec.ofInt k.bits b).toNat
def bor (k : IntKind) (a b : Int) : Int := k.wrap (BitVec.ofInt k.bits a ||| BitVec.ofInt k.bits b).toNat
def bxor (k : IntKind) (a b : Int) : Int := k.wrap (BitVec.ofInt k.bits a ^^^ BitVec.ofInt k.bits b).toNat
def bandn (k : IntKind) (a b : Int) : Int := k.wrap (BitVec.ofInt k.bits a &&& ~~~ (BitVec.ofInt k.bits b)).toNat
theorem g_and {e : EqK} {a b : Int} : binP .and e (.int k a) (.int k b) = some (.int k (band k a b)) := by simp [binP, intP, bitsP, band]
theorem g_or {e : EqK} {a b : Int} : binP .or e (.int k a) (.int k b) = some (.int k (bor k a b)) := by simp [binP, intP, bitsP, bor]
theorem g_xor {e : EqK} {a b : Int} : binP .xor e (.int k a) (.int k b) = some (.int k (bxor k a b)) := by simp [binP, intP, bitsP, bxor]
theorem g_andn {e : EqK} {a b : Int} : binP .andNot e (.int k a) (.int k b) = some (.int k (bandn k a b)) := by simp [binP, intP, bitsP, bandn]
theorem g_com {a : Int} : unP .xor (.int k a) = some (.int k (bxor k (if k.signed then -1 else k.max) a)) := by simp [unP, bitsP, bxor]
theorem g_pick {c : Bool} {a b : PV} : pickP (.bool c) a b h = some (if c = true then a else b, h) := nr rfl
end

theorem bt_box {ty : TypeId} {cs : List PV} {i : Nat} (hi : i ≠ h.n) : (h.newBox ty cs).bty i = h.bty i := by simp [Heap.newBox, hi]
theorem bt_new {ty : TypeId} {cs : List PV} {i : Nat} (hi : i = h.n) : (h.newBox ty cs).bty i = ty := by simp [Heap.newBox, hi]
theorem bt_set {j : Nat} {cs : List PV} {i : Nat} : (h.setBox j cs).bty i = h.bty i := nr rfl
theorem bt_arr {i : Nat} : h.newArr.bty i = h.bty i := nr rfl
theorem bt_loop {r : LoopRec} {i : Nat} : (h.newLoop r).bty i = h.bty i := nr rfl
theorem bt_sloop {j : Nat} {r : LoopRec} {i : Nat} : (h.setLoop j r).bty i = h.bty i := nr rfl
structure Fr1 (id : Nat) (h h' : Heap) : Prop where
  n : h.n ≤ h'.n
  box : ∀ i, i < h.n → i ≠ id → h'.box i = h.box i
  loop : ∀ i, i < h.n → h'.loop i = h.loop i
  live : ∀ i, i < h.n → h'.live i = h.live i
theorem Fr1.refl {id : Nat} : Fr1 id h h := ⟨Nat.le_refl _, fun _ _ _ => rfl, fun _ _ => rfl, fun _ _ => rfl⟩
theorem Fr1.trans {id : Nat} {h' h'' : Heap} (a : Fr1 id h h') (b : Fr1 id h' h'') : Fr1 id h h'' :=
  ⟨Nat.le_trans a.n b.n, fun i hi hx => by rw [b.box i (Nat.lt_of_lt_of_le hi a.n) hx, a.box i hi hx], fun i hi => by rw [b.loop i (Nat.lt_of_lt_of_le hi a.n), a.loop i hi], fun i hi => by rw [b.live i (Nat.lt_of_lt_of_le hi a.n), a.live i hi]⟩
theorem Fr1.own {id : Nat} {h' : Heap} {o : Own} (a : Fr1 id h h') (ho : OwnOK h o) : OwnOK h' o := by
  cases o with
  | own i _ => exact ⟨by rw [a.live i ho.2]; exact ho.1, Nat.lt_of_lt_of_le ho.2 a.n⟩
  | _ => exact ho
structure FrB (ids : List Nat) (h h' : Heap) : Prop where
  n : h.n ≤ h'.n
  box : ∀ i, i < h.n → i ∉ ids → h'.box i = h.box i
  loop : ∀ i, i < h.n → h'.loop i = h.loop i
  live : ∀ i, i < h.n → h'.live i = h.live i
  bty : ∀ i, i < h.n → h'.bty i = h.bty i
section
variable {ids : List Nat} {h0 h' : Heap}
theorem frb_self : FrB ids h h = True := eq_true ⟨Nat.le_refl _, fun _ _ _ => rfl, fun _ _ => rfl, fun _ _ => rfl, fun _ _ => rfl⟩
theorem frb_box {ty : TypeId} {cs : List PV} (F : FrB ids h0 h) : FrB ids h0 (h.newBox ty cs) = True :=
  eq_true ⟨Nat.le_succ_of_le F.n, fun i hi hx => by have := F.n; rw [hb_old (by omega)]; exact F.box i hi hx, F.loop, F.live, fun i hi => by have := F.n; rw [bt_box (by omega)]; exact F.bty i hi⟩
theorem frb_set {i : Nat} {cs : List PV} (F : FrB ids h0 h) (hi : i ∈ ids ∨ h0.n ≤ i) : FrB ids h0 (h.setBox i cs) = True :=
  eq_true ⟨F.n, fun j hj hx => by rw [hb_oset (by rintro rfl; rcases hi with h | h; exact hx h; omega)]; exact F.box j hj hx, F.loop, F.live, F.bty⟩
theorem frb_arr (F : FrB ids h0 h) : FrB ids h0 h.newArr = True :=
  eq_true ⟨Nat.le_succ_of_le F.n, F.box, F.loop, fun i hi => by have := F.n; rw [hl_oarr (by omega)]; exact F.live i hi, F.bty⟩
theorem frb_loop {r : LoopRec} (F : FrB ids h0 h) : FrB ids h0 (h.newLoop r) = True :=
  eq_true ⟨Nat.le_succ_of_le F.n, F.box, fun i hi => by have := F.n; rw [ho_old (by omega)]; exact F.loop i hi, F.live, F.bty⟩
theorem frb_sloop {i : Nat} {r : LoopRec} (F : FrB ids h0 h) (hi : h0.n ≤ i) : FrB ids h0 (h.setLoop i r) = True :=
  eq_true ⟨F.n, F.box, fun j hj => by rw [ho_oset (by omega)]; exact F.loop j hj, F.live, F.bty⟩
theorem FrB.call {ids' : List Nat} (F : FrB ids h0 h) (G : FrB ids' h h') (hs : ∀ j ∈ ids', j ∈ ids ∨ h0.n ≤ j) : FrB ids h0 h' :=
  ⟨Nat.le_trans F.n G.n, fun i hi hx => by rw [G.box i (Nat.lt_of_lt_of_le hi F.n) (fun hm => by rcases hs i hm with h | h; exact hx h; omega)]; exact F.box i hi hx,
   fun i hi => by rw [G.loop i (Nat.lt_of_lt_of_le hi F.n)]; exact F.loop i hi, fun i hi => by rw [G.live i (Nat.lt_of_lt_of_le hi F.n)]; exact F.live i hi, fun i hi => by rw [G.bty i (Nat.lt_of_lt_of_le hi F.n)]; exact F.bty i hi⟩
theorem frb_self' : FrB ids h h := of_eq_true frb_self
theorem frb_box' {ty : TypeId} {cs : List PV} (F : FrB ids h0 h) : FrB ids h0 (h.newBox ty cs) := of_eq_true (frb_box F)
theorem frb_set' {i : Nat} {cs : List PV} (F : FrB ids h0 h) (hi : i ∈ ids ∨ h0.n ≤ i) : FrB ids h0 (h.setBox i cs) := of_eq_true (frb_set F hi)
theorem frb_arr' (F : FrB ids h0 h) : FrB ids h0 h.newArr := of_eq_true (frb_arr F)
theorem frb_loop' {r : LoopRec} (F : FrB ids h0 h) : FrB ids h0 (h.newLoop r) := of_eq_true (frb_loop F)
theorem frb_sloop' {i : Nat} {r : LoopRec} (F : FrB ids h0 h) (hi : h0.n ≤ i) : FrB ids h0 (h.setLoop i r) := of_eq_true (frb_sloop F hi)
def LocO (h : Heap) (o : Own) : Prop := ∀ i b, o = .own i b → h.n ≤ i
theorem FrB.app {o o' : Own} (F : FrB ids h0 h) (G : AppFr o h o' h') (hl : LocO h0 o) : FrB ids h0 h' :=
  ⟨Nat.le_trans F.n G.n, fun i hi hx => by rw [G.box]; exact F.box i hi hx, fun i hi => by rw [G.loop]; exact F.loop i hi,
   fun i hi => by rw [G.live i (Nat.lt_of_lt_of_le hi F.n) (fun b e => by have := hl i b e; omega)]; exact F.live i hi, fun i hi => by rw [G.bty]; exact F.bty i hi⟩
theorem loco_nil : LocO h .nil = True := eq_true (fun i _ h => by cases h)
theorem FrB.box1 {a : Nat} (F : FrB [a] h h') : ∀ i, i < h.n → i ≠ a → h'.box i = h.box i := fun i hi ha => F.box i hi (by simpa using ha)
theorem FrB.own {o : Own} (a : FrB ids h h') (ho : OwnOK h o) : OwnOK h' o := by
  cases o with
  | own i _ => exact ⟨by rw [a.live i ho.2]; exact ho.1, Nat.lt_of_lt_of_le ho.2 a.n⟩
  | _ => exact ho
theorem mem1 {a : Nat} : (a ∈ [a]) = True := by simp
theorem mem2 {a b : Nat} : (a ∈ [a, b]) = True := by simp
theorem mem2' {a b : Nat} : (b ∈ [a, b]) = True := by simp
end
end
end Go.Proofs.YtmngkcpobmhnoaaGreatDoor.Sim
