/- Laws of the evaluator: more fuel, and what weakest preconditions of code are. -/
import Derived.Test.YtmngkcpobmhnoaaGreatDoorKS1
set_option linter.all false
namespace Go.Proofs.YtmngkcpobmhnoaaGreatDoor.Sim


theorem evalOp_mono {orc p p' : FuncId → List PV → Option PV} {c c' : PV → List PV → Heap → Option (PV × Heap)}
  (hp : ∀ g as v, p g as = some v → p' g as = some v) (hc : ∀ g as h r, c g as h = some r → c' g as h = some r)
  {op : ROp} {f : Fr} {h : Heap} {r : PV × Heap} (he : evalOp orc p c op f h = some r) : evalOp orc p' c' op f h = some r := by
 cases op with
 | call g args => exact hc _ _ _ _ he
 | pcall g args =>
  simp only [evalOp] at he ⊢
  cases hm : mapO (fun x => (Opd.ev f x).st2) args with
  | none => rw [hm] at he; cases he
  | some as =>
   rw [hm] at he
   simp only [Option.bind_some] at he ⊢
   cases hq : p g as with
   | none => rw [hq] at he; cases he
   | some v => rw [hq] at he; rw [hp _ _ _ hq]; exact he
 | _ => exact he

theorem evalOps_mono {orc p p' : FuncId → List PV → Option PV} {c c' : PV → List PV → Heap → Option (PV × Heap)}
  (hp : ∀ g as v, p g as = some v → p' g as = some v) (hc : ∀ g as h r, c g as h = some r → c' g as h = some r) :
  ∀ (ops : List ROper) (f : Fr) (h : Heap) (r : Fr × Heap), evalOps orc p c ops f h = some r → evalOps orc p' c' ops f h = some r
 | [], _, _, _, he => he
 | o :: os, f, h, r, he => by
  simp only [evalOps] at he ⊢
  split at he
  ·rename_i hw
   rw [if_pos hw]
   cases hq : evalOp orc p c o.op f h with
   | none => rw [hq] at he; cases he
   | some q =>
    rw [hq] at he
    rw [evalOp_mono hp hc hq]
    exact evalOps_mono hp hc os _ _ _ he
  ·rename_i hw
   rw [if_neg hw]
   exact evalOps_mono hp hc os _ _ _ he

abbrev DLe (d d' : DC) : Prop := ∀ c f h r, d c f h = some r → d' c f h = some r

theorem enterP_mono {d d' : DC} (hd : DLe d d') {R : RFunc} {args : List PV} {h : Heap} {r : PV × Heap} (he : enterP d R args h = some r) : enterP d' R args h = some r := by
 simp only [enterP] at he ⊢
 split at he
 ·rename_i hl
  rw [if_pos hl]
  cases hq : d R.body (frameOf args 0) h with
  | none => rw [hq] at he; cases he
  | some q => rw [hq] at he; rw [hd _ _ _ _ hq]; exact he
 ·cases he

theorem roundP_mono {d d' : DC} (hd : DLe d d') {l : Nat} {lr : LoopRec} {args : List PV} {h : Heap} {r : PV × Heap} (he : roundP d l lr args h = some r) : roundP d' l lr args h = some r := by
 unfold roundP at he ⊢
 cases hst : lr.state with
 | ready =>
  rw [hst] at he
  simp only at he ⊢
  split at he
  ·rename_i hl
   rw [if_pos hl]
   cases hq : d lr.assign (putAll lr.tmps lr.params args) h with
   | none => rw [hq] at he; cases he
   | some q =>
    obtain ⟨e, f1, h1⟩ := q
    rw [hq] at he
    rw [hd _ _ _ _ hq]
    cases e with
    | normal =>
     simp only at he ⊢
     cases hl1 : h1.loop l with
     | none => rw [hl1] at he; cases he
     | some r1 =>
      rw [hl1] at he
      simp only at he ⊢
      cases hs : r1.state with
      | ready =>
       rw [hs] at he
       simp only at he ⊢
       cases hq2 : d lr.body f1 (h1.setLoop l { r1 with state := .busy }) with
       | none => rw [hq2] at he; cases he
       | some q2 => rw [hq2] at he; rw [hd _ _ _ _ hq2]; exact he
      | _ => rw [hs] at he; cases he
    | _ => cases he
  ·cases he
 | _ => rw [hst] at he; cases he

theorem callP_mono {E : Env} {d d' : DC} (hd : DLe d d') {g : PV} {args : List PV} {h : Heap} {r : PV × Heap} (he : callP E d g args h = some r) : callP E d' g args h = some r := by
 cases g with
 | func g a b =>
  simp only [callP] at he ⊢
  cases hf : E.fn g with
  | none => rw [hf] at he; exact he
  | some R => rw [hf] at he; exact enterP_mono hd he
 | yield l =>
  simp only [callP] at he ⊢
  cases hf : h.loop l with
  | none => rw [hf] at he; cases he
  | some R => rw [hf] at he; exact roundP_mono hd he
 | _ => cases he

theorem pureP_mono {E : Env} {d d' : DC} (hd : DLe d d') {g : FuncId} {args : List PV} {v : PV} (he : pureP E d g args = some v) : pureP E d' g args = some v := by
 simp only [pureP] at he ⊢
 cases hf : E.fn g with
 | none => rw [hf] at he; cases he
 | some R =>
  rw [hf] at he
  simp only [Option.bind_some] at he ⊢
  cases hq : enterP d R args Heap.empty with
  | none => rw [hq] at he; cases he
  | some q => rw [hq] at he; rw [enterP_mono hd hq]; exact he

theorem stepC_mono {E : Env} {d d' : DC} (hd : DLe d d') : DLe (stepC E d) (stepC E d') := by
 intro c f h r he
 cases c with
 | skip => exact he
 | exit i => exact he
 | ret => exact he
 | region ops chk =>
  simp only [stepC] at he ⊢
  cases hq : evalOps E.orc (pureP E d) (callP E d) ops f h with
  | none => rw [hq] at he; cases he
  | some q =>
   rw [hq] at he
   rw [evalOps_mono (fun _ _ _ h => pureP_mono hd h) (fun _ _ _ _ h => callP_mono hd h) _ _ _ _ hq]
   exact he
 | seq a b =>
  simp only [stepC] at he ⊢
  cases hq : d a f h with
  | none => rw [hq] at he; cases he
  | some q =>
   obtain ⟨e, f1, h1⟩ := q
   rw [hq] at he
   rw [hd _ _ _ _ hq]
   cases e with
   | normal => exact hd _ _ _ _ he
   | _ => exact he
 | cond x a b =>
  simp only [stepC] at he ⊢
  split at he
  ·exact hd _ _ _ _ he
  ·exact hd _ _ _ _ he
  ·cases he
 | block id b =>
  simp only [stepC] at he ⊢
  cases hq : d b f h with
  | none => rw [hq] at he; cases he
  | some q =>
   obtain ⟨e, f1, h1⟩ := q
   rw [hq] at he
   rw [hd _ _ _ _ hq]
   exact he
 | scope b => exact hd _ _ _ _ he
 | loop b =>
  simp only [stepC] at he ⊢
  cases hq : d b f h with
  | none => rw [hq] at he; cases he
  | some q =>
   obtain ⟨e, f1, h1⟩ := q
   rw [hq] at he
   rw [hd _ _ _ _ hq]
   cases e with
   | normal => exact hd _ _ _ _ he
   | _ => exact he
 | rangeFunc g ps as body =>
  simp only [stepC] at he ⊢
  split at he
  ·rename_i k first cap hev
   cases hq : callP E d (.func k first cap) [.yield h.n] (h.newLoop { state := .ready, pending := none, tmps := f, params := ps, assign := as, body := body }) with
   | none => rw [hq] at he; cases he
   | some q => rw [hq] at he; rw [callP_mono hd hq]; exact he
  ·cases he

theorem den_le1 (E : Env) : ∀ k, DLe (den E k) (den E (k + 1))
 | 0 => fun _ _ _ _ he => by cases he
 | k + 1 => stepC_mono (den_le1 E k)

theorem den_le {E : Env} {j k : Nat} (hjk : j ≤ k) : DLe (den E j) (den E k) := by
 induction hjk with
 | refl => exact fun _ _ _ _ h => h
 | step _ ih => exact fun c f h r he => den_le1 E _ c f h r (ih c f h r he)


abbrev K := Fr → Heap → Prop

def CallC (E : Env) (g : PV) (args : List PV) (h : Heap) (N : PV → Heap → Prop) : Prop :=
 ∃ k v h', callP E (den E k) g args h = some (v, h') ∧ N v h'

def PureC (E : Env) (g : FuncId) (args : List PV) (v : PV) : Prop :=
 ∃ k, pureP E (den E k) g args = some v

def Does (E : Env) (c : RCode) (N : K) (B : Nat → K) (R : K) (f : Fr) (h : Heap) : Prop :=
 ∃ k e f' h', den E k c f h = some (e, f', h') ∧ (match e with | .normal => N f' h' | .exit i => B i f' h' | .ret => R f' h')

def stAll (f : Fr) (args : List Opd) : Option (List PV) := mapO (fun x => (Opd.ev f x).st2) args

def wpOp (E : Env) (op : ROp) (N : PV → Heap → Prop) (f : Fr) (h : Heap) : Prop :=
 match op with
 | .call g args => CallC E (g.ev f) (args.map (Opd.ev f)) h N
 | .pcall g args => ∃ as v, stAll f args = some as ∧ PureC E g as v ∧ N v h
 | .ocall g args => ∃ as v, stAll f args = some as ∧ E.orc g as = some v ∧ N v h
 | op => ∃ v h', evalOp E.orc (fun _ _ => none) (fun _ _ _ => none) op f h = some (v, h') ∧ N v h'

def wpOps (E : Env) : List ROper → K → K
 | [], N => N
 | o :: os, N => fun f h =>
  (wantedP f o.guard = true → wpOp E o.op (fun v h' => wpOps E os N (putD f o.dst v) h') f h) ∧
  (wantedP f o.guard = false → wpOps E os N (putD f o.dst undefP) h)

def wp (E : Env) : RCode → K → (Nat → K) → K → K
 | .skip, N, _, _ => N
 | .region ops chk, N, _, _ => wpOps E ops (fun f h => chkOk f chk ∧ N f h)
 | .seq a b, N, B, R => wp E a (wp E b N B R) B R
 | .cond x a b, N, B, R => fun f h => ∃ t, x.ev f = .bool t ∧ (t = true → wp E a N B R f h) ∧ (t = false → wp E b N B R f h)
 | .block id b, N, B, R => wp E b N (fun i => if i = id then N else B i) R
 | .scope b, N, B, R => wp E b N B R
 | .loop b, N, B, R => Does E (.loop b) N B R
 | .rangeFunc g ps as body, N, B, R => Does E (.rangeFunc g ps as body) N B R
 | .exit id, _, B, _ => B id
 | .ret, _, _, R => R

theorem Does.mono {E : Env} {c : RCode} {N N' : K} {B B' : Nat → K} {R R' : K} {f : Fr} {h : Heap} (hd : Does E c N B R f h)
  (hN : ∀ f h, N f h → N' f h) (hB : ∀ i f h, B i f h → B' i f h) (hR : ∀ f h, R f h → R' f h) : Does E c N' B' R' f h := by
 obtain ⟨k, e, f', h', h1, h2⟩ := hd
 refine ⟨k, e, f', h', h1, ?_⟩
 cases e with
 | normal => exact hN _ _ h2
 | exit i => exact hB _ _ _ h2
 | ret => exact hR _ _ h2

theorem evalOp_none {orc p : FuncId → List PV → Option PV} {c : PV → List PV → Heap → Option (PV × Heap)} {op : ROp} {f : Fr} {h : Heap} {r : PV × Heap}
  (he : evalOp orc (fun _ _ => none) (fun _ _ _ => none) op f h = some r) : evalOp orc p c op f h = some r :=
 evalOp_mono (fun _ _ _ h => by cases h) (fun _ _ _ _ h => by cases h) he

theorem wpOp_sound {E : Env} {op : ROp} {N : PV → Heap → Prop} {f : Fr} {h : Heap} (hw : wpOp E op N f h) :
  ∃ k v h', (∀ j, k ≤ j → evalOp E.orc (pureP E (den E j)) (callP E (den E j)) op f h = some (v, h')) ∧ N v h' := by
 have key : (∃ v h', evalOp E.orc (fun _ _ => none) (fun _ _ _ => none) op f h = some (v, h') ∧ N v h') →
   ∃ k v h', (∀ j, k ≤ j → evalOp E.orc (pureP E (den E j)) (callP E (den E j)) op f h = some (v, h')) ∧ N v h' :=
  fun ⟨v, h', h1, h2⟩ => ⟨0, v, h', fun j _ => evalOp_none h1, h2⟩
 cases op with
 | call g args =>
  obtain ⟨k, v, h', h1, h2⟩ := hw
  exact ⟨k, v, h', fun j hj => callP_mono (den_le hj) h1, h2⟩
 | pcall g args =>
  obtain ⟨as, v, h1, ⟨k, h2⟩, h3⟩ := hw
  refine ⟨k, v, h, fun j hj => ?_, h3⟩
  have := pureP_mono (den_le hj) h2
  simp only [evalOp]
  unfold stAll at h1
  rw [h1]
  simp only [Option.bind_some, this, Option.map_some]
 | ocall g args =>
  obtain ⟨as, v, h1, h2, h3⟩ := hw
  refine ⟨0, v, h, fun j hj => ?_, h3⟩
  simp only [evalOp]
  unfold stAll at h1
  rw [h1]
  simp only [Option.bind_some, h2, Option.map_some]
 | _ => exact key hw

theorem wpOps_sound {E : Env} : ∀ (ops : List ROper) {N : K} {f : Fr} {h : Heap}, wpOps E ops N f h →
  ∃ k f' h', (∀ j, k ≤ j → evalOps E.orc (pureP E (den E j)) (callP E (den E j)) ops f h = some (f', h')) ∧ N f' h'
 | [], N, f, h, hw => ⟨0, f, h, fun _ _ => rfl, hw⟩
 | o :: os, N, f, h, hw => by
  obtain ⟨h1, h2⟩ := hw
  cases hg : wantedP f o.guard with
  | true =>
   obtain ⟨k1, v, h', a1, a2⟩ := wpOp_sound (h1 hg)
   obtain ⟨k2, f2, h2', b1, b2⟩ := wpOps_sound os a2
   refine ⟨max k1 k2, f2, h2', fun j hj => ?_, b2⟩
   simp only [evalOps, hg, if_true]
   rw [a1 j (by omega)]
   exact b1 j (by omega)
  | false =>
   obtain ⟨k2, f2, h2', b1, b2⟩ := wpOps_sound os (h2 hg)
   refine ⟨k2, f2, h2', fun j hj => ?_, b2⟩
   simp only [evalOps, hg]
   exact b1 j hj

theorem wp_sound {E : Env} : ∀ (c : RCode) {N : K} {B : Nat → K} {R : K} {f : Fr} {h : Heap}, wp E c N B R f h → Does E c N B R f h
 | .skip, N, B, R, f, h, hw => ⟨1, .normal, f, h, rfl, hw⟩
 | .exit i, N, B, R, f, h, hw => ⟨1, .exit i, f, h, rfl, hw⟩
 | .ret, N, B, R, f, h, hw => ⟨1, .ret, f, h, rfl, hw⟩
 | .region ops chk, N, B, R, f, h, hw => by
  obtain ⟨k, f', h', h1, h2, h3⟩ := wpOps_sound ops hw
  refine ⟨k + 1, .normal, f', h', ?_, h3⟩
  simp only [den, stepC, h1 k (Nat.le_refl k), Option.bind_some, if_pos h2]
 | .seq a b, N, B, R, f, h, hw => by
  obtain ⟨k, e, f1, h1, a1, a2⟩ := wp_sound a hw
  cases e with
  | normal =>
   obtain ⟨k2, e2, f2, h2, b1, b2⟩ := wp_sound b a2
   refine ⟨max k k2 + 1, e2, f2, h2, ?_, b2⟩
   simp only [den, stepC, den_le (Nat.le_max_left k k2) _ _ _ _ a1, den_le (Nat.le_max_right k k2) _ _ _ _ b1]
  | exit i => exact ⟨k + 1, .exit i, f1, h1, by simp only [den, stepC, a1], a2⟩
  | ret => exact ⟨k + 1, .ret, f1, h1, by simp only [den, stepC, a1], a2⟩
 | .cond x a b, N, B, R, f, h, hw => by
  obtain ⟨t, hx, h1, h2⟩ := hw
  cases t with
  | true =>
   obtain ⟨k, e, f1, g1, a1, a2⟩ := wp_sound a (h1 rfl)
   exact ⟨k + 1, e, f1, g1, by simp only [den, stepC, hx, a1], a2⟩
  | false =>
   obtain ⟨k, e, f1, g1, a1, a2⟩ := wp_sound b (h2 rfl)
   exact ⟨k + 1, e, f1, g1, by simp only [den, stepC, hx, a1], a2⟩
 | .block id b, N, B, R, f, h, hw => by
  obtain ⟨k, e, f1, h1, a1, a2⟩ := wp_sound b hw
  cases e with
  | normal => exact ⟨k + 1, .normal, f1, h1, by simp only [den, stepC, a1], a2⟩
  | exit i =>
   simp only at a2
   by_cases hi : i = id
   ·rw [if_pos hi] at a2
    exact ⟨k + 1, .normal, f1, h1, by simp only [den, stepC, a1, if_pos hi], a2⟩
   ·rw [if_neg hi] at a2
    exact ⟨k + 1, .exit i, f1, h1, by simp only [den, stepC, a1, if_neg hi], a2⟩
  | ret => exact ⟨k + 1, .ret, f1, h1, by simp only [den, stepC, a1], a2⟩
 | .scope b, N, B, R, f, h, hw => by
  obtain ⟨k, e, f1, h1, a1, a2⟩ := wp_sound b hw
  exact ⟨k + 1, e, f1, h1, by simp only [den, stepC, a1], a2⟩
 | .loop b, N, B, R, f, h, hw => hw
 | .rangeFunc g ps as body, N, B, R, f, h, hw => hw

theorem wp_loop {E : Env} {b : RCode} {N : K} {B : Nat → K} {R : K} {f : Fr} {h : Heap} (hw : wp E b (wp E (.loop b) N B R) B R f h) : wp E (.loop b) N B R f h := by
 obtain ⟨k, e, f1, h1, a1, a2⟩ := wp_sound b hw
 cases e with
 | normal =>
  obtain ⟨k2, e2, f2, h2, b1, b2⟩ := a2
  refine ⟨max k k2 + 1, e2, f2, h2, ?_, b2⟩
  simp only [den, stepC, den_le (Nat.le_max_left k k2) _ _ _ _ a1, den_le (Nat.le_max_right k k2) _ _ _ _ b1]
 | exit i => exact ⟨k + 1, .exit i, f1, h1, by simp only [den, stepC, a1], a2⟩
 | ret => exact ⟨k + 1, .ret, f1, h1, by simp only [den, stepC, a1], a2⟩

def outP (R : RFunc) (f : Fr) (h : Heap) : Option PV := (mapO (resP f h) R.results).map packP

theorem callC_func {E : Env} {g : FuncId} {R : RFunc} (hR : E.fn g = some R) {first cap args : List PV} {h : Heap} {N : PV → Heap → Prop}
  (hl : (first ++ args ++ cap).length = R.np)
  (hw : wp E R.body (fun f h => ∃ v, outP R f h = some v ∧ N v h) (fun _ _ _ => False) (fun f h => ∃ v, outP R f h = some v ∧ N v h) (frameOf (first ++ args ++ cap) 0) h) :
  CallC E (.func g first cap) args h N := by
 obtain ⟨k, e, f1, h1, a1, a2⟩ := wp_sound _ hw
 cases e with
 | normal =>
  obtain ⟨v, b1, b2⟩ := a2
  unfold outP at b1
  cases hm : mapO (resP f1 h1) R.results with
  | none => rw [hm] at b1; cases b1
  | some vs =>
   rw [hm] at b1
   cases b1
   exact ⟨k, _, h1, by simp only [callP, hR, enterP, if_pos hl, a1, hm, Option.map_some], b2⟩
 | exit i => exact a2.elim
 | ret =>
  obtain ⟨v, b1, b2⟩ := a2
  unfold outP at b1
  cases hm : mapO (resP f1 h1) R.results with
  | none => rw [hm] at b1; cases b1
  | some vs =>
   rw [hm] at b1
   cases b1
   exact ⟨k, _, h1, by simp only [callP, hR, enterP, if_pos hl, a1, hm, Option.map_some], b2⟩

theorem callC_horc {E : Env} {g : FuncId} (hR : E.fn g = none) {first cap args : List PV} {h h' : Heap} {v : PV} {N : PV → Heap → Prop} (ho : E.horc g (first ++ args ++ cap) h = some (v, h')) (hn : N v h') :
  CallC E (.func g first cap) args h N := ⟨0, v, h', by simp only [callP, hR, ho], hn⟩

theorem CallC.mono {E : Env} {g : PV} {args : List PV} {h : Heap} {N N' : PV → Heap → Prop} (hc : CallC E g args h N) (hn : ∀ v h, N v h → N' v h) : CallC E g args h N' :=
 let ⟨k, v, h', a, b⟩ := hc; ⟨k, v, h', a, hn _ _ b⟩

end Go.Proofs.YtmngkcpobmhnoaaGreatDoor.Sim
/- Rules for simp: what code comes to, from its head on. What stands behind is hidden from simp by a type that hangs on it (Blk). -/
namespace Go.Proofs.YtmngkcpobmhnoaaGreatDoor.Sim

inductive Blk {α : Sort _} (a : α) : Type
 | mk
theorem nr {α : Sort _} {a b : α} (h : a = b) : a = b := h

structure Kt where
 N : K
 B : Nat → K
 R : K

def Wq (E : Env) (c : RCode) (κ : Kt) (_ : Blk κ) (f : Fr) (h : Heap) : Prop := wp E c κ.N κ.B κ.R f h
def Oq (E : Env) (os : List ROper) (n : K) (_ : Blk n) (f : Fr) (h : Heap) : Prop := wpOps E os n f h
def Vq (o : Option (PV × Heap)) (n : PV → Heap → Prop) (_ : Blk n) : Prop := ∃ v h', o = some (v, h') ∧ n v h'
def Bq (b : Bool) (X Y : Prop) (_ : Blk X) (_ : Blk Y) : Prop := (b = true → X) ∧ (b = false → Y)
def Cq (p : PV) (X Y : Prop) (_ : Blk X) (_ : Blk Y) : Prop := ∃ t, p = .bool t ∧ (t = true → X) ∧ (t = false → Y)
def wantV (p : PV) (g : Bool) : Bool := match p with
 | .bool c => c == g
 | _ => false
def Gq (p : PV) (g : Bool) (X Y : Prop) (_ : Blk X) (_ : Blk Y) : Prop := (wantV p g = true → X) ∧ (wantV p g = false → Y)
def Pq (E : Env) (g : FuncId) (o : Option (List PV)) (n : PV → Prop) (_ : Blk n) : Prop := ∃ as v, o = some as ∧ PureC E g as v ∧ n v
def Hq (E : Env) (g : FuncId) (o : Option (List PV)) (n : PV → Prop) (_ : Blk n) : Prop := ∃ as v, o = some as ∧ E.orc g as = some v ∧ n v
def Fq (E : Env) (g : PV) (args : List PV) (h : Heap) (n : PV → Heap → Prop) (_ : Blk n) : Prop := CallC E g args h n
def Lq (E : Env) (c : RCode) (κ : Kt) (_ : Blk κ) (f : Fr) (h : Heap) : Prop := Does E c κ.N κ.B κ.R f h


def pickP (c a b : PV) (h : Heap) : Option (PV × Heap) := match c with
 | .bool t => some (if t then a else b, h)
 | _ => none
def boxP (ty : TypeId) (x : PV) (h : Heap) : Option (PV × Heap) := if x.cells.all PV.one then some (.ptr h.n 0, h.newBox ty x.cells) else none
def mkifP (t : TypeId) (x : PV) (h : Heap) : Option (PV × Heap) := match x with
 | .int k n => some (.ifcI t k n, h)
 | .agg _ | .tuple _ => none
 | _ => some (.ifc, h)
def aggP (o : Option (List PV)) (h : Heap) : Option (PV × Heap) := o.map fun cs => (.agg cs, h)
def bsliceP (es len : Nat) (o : Option (List PV)) (h : Heap) : Option (PV × Heap) := o.bind fun cs =>
 match mapO PV.st1 cs with
 | some cs' => some (.slice (.own h.n false) es (chunk es len cs'), h.newArr)
 | none => none
def nilckP (x : PV) (h : Heap) : Option (PV × Heap) := match x with
 | .ptr id off => some (.ptr id off, h)
 | .cptr cs off => some (.cptr cs off, h)
 | .func g a b => some (.func g a b, h)
 | _ => none
def valP (o : Option PV) (h : Heap) : Option (PV × Heap) := o.map fun v => (v, h)
def convP (c : Cv) (x : PV) (h : Heap) : Option (PV × Heap) := match c, x with
 | .int k, .int _ n => some (.int k (k.wrap n), h)
 | .same, .str s => some (.str s, h)
 | .s2b, .str s => some (.slice (.own h.n false) 1 (s.map byteCell), h.newArr)
 | .b2s, .slice o es L => if es = 1 ∨ L = [] then (mapO cellByte L).map fun s => (.str s, h) else none
 | _, _ => none
def mksliceP (es bytes : Nat) (z : List PV) (l c : PV) (h : Heap) : Option (PV × Heap) := match l, c with
 | .int _ a, .int _ b => if 0 ≤ a ∧ a ≤ b ∧ bytes * b ≤ 281474976710656 ∧ b ≤ 9223372036854775807 then some (.slice (.own h.n false) es (List.replicate a.toNat z), h.newArr) else none
 | _, _ => none
def evO (f : Fr) : Option Opd → Option PV
 | none => none
 | some x => some (x.ev f)
def bndP (d y : Nat) : Option PV → Option Nat
 | none => some d
 | some (.int _ i) => if 0 ≤ i ∧ i ≤ y then some i.toNat else none
 | _ => none
theorem bnd_eq {f : Fr} {d y : Nat} {o : Option Opd} : boundP f d y o = bndP d y (evO f o) := by
 cases o with
 | none => rfl
 | some x => simp only [boundP, evO]; cases x.ev f <;> rfl
def sliceSP (x : PV) (lo hi : Option PV) (h : Heap) : Option (PV × Heap) := match x with
 | .str s => (bndP s.length s.length hi).bind fun b => (bndP 0 b lo).map fun a => (.str ((s.take b).drop a), h)
 | _ => none
def sliceP (z : Nat) (x : PV) (lo hi mx : Option PV) (h : Heap) : Option (PV × Heap) := if esOk z x then match x, mx with
 | .slice o es L, none => (bndP L.length L.length hi).bind fun b => (bndP 0 b lo).map fun a =>
   (.slice (subOwn o (a = 0 ∧ b = L.length)) es ((L.take b).drop a), h)
 | .slice o es L, some m => (bndP L.length L.length (some m)).bind fun c => match hi with
  | some hi => (bndP 0 c (some hi)).bind fun b => (bndP 0 b lo).map fun a =>
   (.slice (fullOwn o (b = c)) es ((L.take b).drop a), h)
  | none => none
 | _, _ => none
 else none
def fieldP (o : Nat) (n : Option Nat) (x : PV) (h : Heap) : Option (PV × Heap) := match x with
 | .agg cs => (readAt cs o n).map fun v => (v, h)
 | _ => none
def iaddrP (es : Nat) (x i : PV) (h : Heap) : Option (PV × Heap) := match x, i with
 | .slice _ e L, .int _ n => if 0 ≤ n ∧ e = es then (L[n.toNat]?).map fun c => (.cptr c 0, h) else none
 | _, _ => none
def iaddrBP (len es : Nat) (x i : PV) (h : Heap) : Option (PV × Heap) := match i with
 | .int _ n => iaddrAP len es x n h
 | _ => none
def indexSP (x i : PV) (h : Heap) : Option (PV × Heap) := match x, i with
 | .str s, .int _ n => if 0 ≤ n then (s[n.toNat]?).map fun c => (.int .u8 c.toNat, h) else none
 | _, _ => none
def indexAP (len es : Nat) (n : Option Nat) (x i : PV) (h : Heap) : Option (PV × Heap) := match x, i with
 | .agg cs, .int _ j => if 0 ≤ j ∧ j < len then (readAt cs (j.toNat * es) n).map fun v => (v, h) else none
 | _, _ => none
def extractP (i : Nat) (x : PV) (h : Heap) : Option (PV × Heap) := match x with
 | .tuple vs => (vs[i]?).map fun v => (v, h)
 | _ => none
def lenP (b : Bool) (x : PV) (h : Heap) : Option (PV × Heap) := match b, x with
 | true, .str s => some (.int .i64 s.length, h)
 | false, .slice _ _ L => some (.int .i64 L.length, h)
 | _, _ => none
def minP (x y : PV) (h : Heap) : Option (PV × Heap) := match x, y with
 | .int k a, .int _ b => some (.int k (if b < a then b else a), h)
 | _, _ => none

section
variable {E : Env} {f : Fr} {h : Heap}

section
variable {κ : Kt} {t : Blk κ}
theorem q_skip : Wq E .skip κ t f h = κ.N f h := nr rfl
theorem q_region {ops : List ROper} {c : Chk} {chk : List Chk} : Wq E (.region ops (c :: chk)) κ t f h = Oq E ops (fun f h => chkOk f (c :: chk) ∧ κ.N f h) .mk f h := nr rfl
theorem q_region0 {ops : List ROper} : Wq E (.region ops []) κ t f h = Oq E ops κ.N .mk f h := by
 have : (fun f h => chkOk f [] ∧ κ.N f h) = κ.N := by funext f h; simp [chkOk]
 show wpOps E ops (fun f h => chkOk f [] ∧ κ.N f h) f h = _
 rw [this]; rfl
theorem q_seq {a b : RCode} : Wq E (.seq a b) κ t f h = Wq E a ⟨fun f h => Wq E b κ t f h, κ.B, κ.R⟩ .mk f h := nr rfl
theorem q_cond {x : Opd} {a b : RCode} : Wq E (.cond x a b) κ t f h = Cq (x.ev f) (Wq E a κ t f h) (Wq E b κ t f h) .mk .mk := nr rfl
theorem q_block {id : Nat} {b : RCode} : Wq E (.block id b) κ t f h = Wq E b ⟨κ.N, fun i f h => if i = id then κ.N f h else κ.B i f h, κ.R⟩ .mk f h := by
 show wp E b κ.N (fun i => if i = id then κ.N else κ.B i) κ.R f h = wp E b κ.N (fun i f h => if i = id then κ.N f h else κ.B i f h) κ.R f h
 have : (fun i => if i = id then κ.N else κ.B i) = (fun i f h => if i = id then κ.N f h else κ.B i f h) := by
  funext i f h; split <;> rfl
 rw [this]
theorem q_scope {b : RCode} : Wq E (.scope b) κ t f h = Wq E b κ t f h := nr rfl
theorem q_exit {i : Nat} : Wq E (.exit i) κ t f h = κ.B i f h := nr rfl
theorem q_ret : Wq E .ret κ t f h = κ.R f h := nr rfl
theorem q_loop {b : RCode} : Wq E (.loop b) κ t f h = Lq E (.loop b) κ t f h := nr rfl
theorem q_range {g : Opd} {ps : List Nat} {a b : RCode} : Wq E (.rangeFunc g ps a b) κ t f h = Lq E (.rangeFunc g ps a b) κ t f h := nr rfl

theorem loop_step {b b' : RCode} (hb : b = b') (hw : Wq E b' ⟨fun f h => Lq E (.loop b) κ t f h, κ.B, κ.R⟩ .mk f h) : Lq E (.loop b) κ t f h := by
 subst hb; exact wp_loop hw
end

theorem c_bool {b : Bool} {X Y : Prop} {s : Blk X} {t : Blk Y} : Cq (.bool b) X Y s t = Bq b X Y s t := by
 apply propext; constructor
 ·rintro ⟨t, e, h⟩; cases e; exact h
 ·intro h; exact ⟨b, rfl, h⟩
theorem b_true {X Y : Prop} {s : Blk X} {t : Blk Y} : Bq true X Y s t = X := by simp [Bq]
theorem b_false {X Y : Prop} {s : Blk X} {t : Blk Y} : Bq false X Y s t = Y := by simp [Bq]
theorem g_t {b : Bool} {X Y : Prop} {s : Blk X} {t : Blk Y} : Gq (.bool b) true X Y s t = Bq b X Y s t := by cases b <;> exact nr rfl
theorem g_f {b : Bool} {X Y : Prop} {s : Blk X} {t : Blk Y} : Gq (.bool b) false X Y s t = Bq b Y X t s := by
 cases b
 ·simp [Gq, Bq, wantV]
 ·simp [Gq, Bq, wantV]
theorem g_undef {g : Bool} {X Y : Prop} {s : Blk X} {t : Blk Y} : Gq undefP g X Y s t = Y := by simp [Gq, wantV, undefP]
theorem v_some {v : PV} {n : PV → Heap → Prop} {t : Blk n} : Vq (some (v, h)) n t = n v h := by
 apply propext; constructor
 ·rintro ⟨v', h', e, hn⟩; cases e; exact hn
 ·intro hn; exact ⟨v, h, rfl, hn⟩
theorem v_none {n : PV → Heap → Prop} {t : Blk n} : Vq none n t = False := by
 apply propext; constructor
 ·rintro ⟨v', h', e, hn⟩; cases e
 ·intro h; exact h.elim
theorem v_ite {c : Prop} [Decidable c] {a : Option (PV × Heap)} {n : PV → Heap → Prop} {t : Blk n} : Vq (if c then a else none) n t = (c ∧ Vq a n t) := by
 split
 ·simp [*]
 ·simp [*, v_none]
theorem h_eq {g : FuncId} {as : List PV} {v : PV} {n : PV → Prop} {t : Blk n} (hp : E.orc g as = some v) : Hq E g (some as) n t = n v := by
 apply propext; constructor
 ·rintro ⟨as', v', e, h1, h2⟩
  cases e; rw [hp] at h1; cases h1; exact h2
 ·intro hk; exact ⟨as, v, rfl, hp, hk⟩

section
variable {os : List ROper} {n : K} {t : Blk n} {d : Option Nat}
theorem o_nil : Oq E [] n t f h = n f h := nr rfl
theorem o_one {op : ROp} : wpOps E (⟨d, op, none⟩ :: os) n f h = wpOp E op (fun v h' => wpOps E os n (putD f d v) h') f h := by simp [wpOps, wantedP]
theorem o_guard {op : ROp} {s : Nat} {b : Bool} : Oq E (⟨d, op, some (s, b)⟩ :: os) n t f h = Gq (f s) b (Oq E (⟨d, op, none⟩ :: os) n t f h) (Oq E os n t (putD f d undefP) h) .mk .mk := by
 show ((wantedP f (some (s, b)) = true → wpOp E op (fun v h' => wpOps E os n (putD f d v) h') f h) ∧ (wantedP f (some (s, b)) = false → wpOps E os n (putD f d undefP) h)) =
  ((wantV (f s) b = true → wpOps E (⟨d, op, none⟩ :: os) n f h) ∧ (wantV (f s) b = false → wpOps E os n (putD f d undefP) h))
 rw [o_one]; rfl
theorem put_some {i : Nat} {v : PV} : putD f (some i) v = f.put i v := nr rfl
theorem put_none {v : PV} : putD f none v = f := nr rfl
theorem put_get {i j : Nat} {v : PV} : f.put i v j = if j = i then v else f j := nr rfl
theorem ev_tmp {s : Nat} : (Opd.tmp s).ev f = f s := nr rfl
theorem ev_const {p : PV} : (Opd.const p).ev f = p := nr rfl
theorem frame_nil {i : Nat} : frameOf [] i = fun _ => undefP := nr rfl
theorem frame_cons {v : PV} {vs : List PV} {i : Nat} : frameOf (v :: vs) i = (frameOf vs (i + 1)).put i v := nr rfl
theorem o_mov {x : Opd} : Oq E (⟨d, .mov x, none⟩ :: os) n t f h = Oq E os n t (putD f d (x.ev f)) h := by
 show wpOps E _ n f h = _
 rw [o_one]; exact v_some (n := fun v h' => wpOps E os n (putD f d v) h') (t := .mk)
theorem o_pick {c a b : Opd} : Oq E (⟨d, .pick c a b, none⟩ :: os) n t f h = Vq (pickP (c.ev f) (a.ev f) (b.ev f) h) (fun v h' => Oq E os n t (putD f d v) h') .mk := by
 show wpOps E _ n f h = _
 rw [o_one]; rfl
theorem o_alloc {ty : TypeId} {z : List PV} : Oq E (⟨d, .alloc ty z, none⟩ :: os) n t f h = Oq E os n t (putD f d (.ptr h.n 0)) (h.newBox ty z) := by
 show wpOps E _ n f h = _
 rw [o_one]; exact v_some (n := fun v h' => wpOps E os n (putD f d v) h') (t := .mk)
theorem o_box {ty : TypeId} {x : Opd} : Oq E (⟨d, .box ty x, none⟩ :: os) n t f h = Vq (boxP ty (x.ev f) h) (fun v h' => Oq E os n t (putD f d v) h') .mk := by
 show wpOps E _ n f h = _
 rw [o_one]; rfl
theorem o_mkif {ty : TypeId} {x : Opd} : Oq E (⟨d, .mkif ty x, none⟩ :: os) n t f h = Vq (mkifP ty (x.ev f) h) (fun v h' => Oq E os n t (putD f d v) h') .mk := by
 show wpOps E _ n f h = _
 rw [o_one]; rfl
theorem o_build {z : List PV} {ps : List (Nat × Nat × Opd)} : Oq E (⟨d, .build z ps, none⟩ :: os) n t f h = Vq (aggP (fillP f z ps) h) (fun v h' => Oq E os n t (putD f d v) h') .mk := by
 show wpOps E _ n f h = _
 rw [o_one]; rfl
theorem o_bslice {es len bytes : Nat} {z : List PV} {ps : List (Nat × Nat × Opd)} : Oq E (⟨d, .bslice es len bytes z ps, none⟩ :: os) n t f h = Vq (bsliceP es len (fillP f z ps) h) (fun v h' => Oq E os n t (putD f d v) h') .mk := by
 show wpOps E _ n f h = _
 rw [o_one]; rfl
theorem o_load {k : Option Nat} {a : Opd} : Oq E (⟨d, .load k a, none⟩ :: os) n t f h = Vq (loadP h (a.ev f) k) (fun v h' => Oq E os n t (putD f d v) h') .mk := by
 show wpOps E _ n f h = _
 rw [o_one]; rfl
theorem o_store {k : Nat} {a x : Opd} : Oq E (⟨d, .store k a x, none⟩ :: os) n t f h = Vq (storeP h (a.ev f) k (x.ev f).cells) (fun v h' => Oq E os n t (putD f d v) h') .mk := by
 show wpOps E _ n f h = _
 rw [o_one]; rfl
theorem o_nilck {x : Opd} : Oq E (⟨d, .nilck x, none⟩ :: os) n t f h = Vq (nilckP (x.ev f) h) (fun v h' => Oq E os n t (putD f d v) h') .mk := by
 show wpOps E _ n f h = _
 rw [o_one]; rfl
theorem o_bin {op : BinOp} {e : EqK} {x y : Opd} : Oq E (⟨d, .bin op e x y, none⟩ :: os) n t f h = Vq (valP (binP op e (x.ev f) (y.ev f)) h) (fun v h' => Oq E os n t (putD f d v) h') .mk := by
 show wpOps E _ n f h = _
 rw [o_one]; rfl
theorem o_un {op : UnOp} {x : Opd} : Oq E (⟨d, .un op x, none⟩ :: os) n t f h = Vq (valP (unP op (x.ev f)) h) (fun v h' => Oq E os n t (putD f d v) h') .mk := by
 show wpOps E _ n f h = _
 rw [o_one]; rfl
theorem o_conv {c : Cv} {x : Opd} : Oq E (⟨d, .conv c x, none⟩ :: os) n t f h = Vq (convP c (x.ev f) h) (fun v h' => Oq E os n t (putD f d v) h') .mk := by
 show wpOps E _ n f h = _
 rw [o_one]; rfl
theorem o_mkfunc {g : FuncId} {a b : List Opd} : Oq E (⟨d, .mkfunc g a b, none⟩ :: os) n t f h = Oq E os n t (putD f d (.func g (a.map (Opd.ev f)) (b.map (Opd.ev f)))) h := by
 show wpOps E _ n f h = _
 rw [o_one]; exact v_some (n := fun v h' => wpOps E os n (putD f d v) h') (t := .mk)
theorem o_mkslice {es bytes : Nat} {z : List PV} {l c : Opd} : Oq E (⟨d, .mkslice es bytes z l c, none⟩ :: os) n t f h = Vq (mksliceP es bytes z (l.ev f) (c.ev f) h) (fun v h' => Oq E os n t (putD f d v) h') .mk := by
 show wpOps E _ n f h = _
 rw [o_one]; rfl
theorem o_sliceS {x : Opd} {lo hi : Option Opd} : Oq E (⟨d, .sliceS x lo hi, none⟩ :: os) n t f h = Vq (sliceSP (x.ev f) (evO f lo) (evO f hi) h) (fun v h' => Oq E os n t (putD f d v) h') .mk := by
 show wpOps E _ n f h = _
 rw [o_one]
 show (∃ v h', evalOp E.orc (fun _ _ => none) (fun _ _ _ => none) (.sliceS x lo hi) f h = some (v, h') ∧ _) = _
 simp only [evalOp, bnd_eq]
 rfl
theorem o_slice {es : Nat} {x : Opd} {lo hi mx : Option Opd} : Oq E (⟨d, .slice es x lo hi mx, none⟩ :: os) n t f h = Vq (sliceP es (x.ev f) (evO f lo) (evO f hi) (evO f mx) h) (fun v h' => Oq E os n t (putD f d v) h') .mk := by
 show wpOps E _ n f h = _
 rw [o_one]
 have key : evalOp E.orc (fun _ _ => none) (fun _ _ _ => none) (.slice es x lo hi mx) f h = sliceP es (x.ev f) (evO f lo) (evO f hi) (evO f mx) h := by
  simp only [evalOp, bnd_eq, sliceP]
  generalize Opd.ev f x = p
  cases mx <;> cases p <;> first | rfl | (cases hi <;> rfl)
 show (∃ v h', evalOp E.orc (fun _ _ => none) (fun _ _ _ => none) (.slice es x lo hi mx) f h = some (v, h') ∧ _) = _
 rw [key]; rfl
theorem o_faddr {o : Nat} {x : Opd} : Oq E (⟨d, .faddr o x, none⟩ :: os) n t f h = Vq (faddrP o (x.ev f) h) (fun v h' => Oq E os n t (putD f d v) h') .mk := by
 show wpOps E _ n f h = _
 rw [o_one]; rfl
theorem o_field {o : Nat} {k : Option Nat} {x : Opd} : Oq E (⟨d, .field o k x, none⟩ :: os) n t f h = Vq (fieldP o k (x.ev f) h) (fun v h' => Oq E os n t (putD f d v) h') .mk := by
 show wpOps E _ n f h = _
 rw [o_one]; rfl
theorem o_iaddr {es : Nat} {x i : Opd} : Oq E (⟨d, .iaddr es x i, none⟩ :: os) n t f h = Vq (iaddrP es (x.ev f) (i.ev f) h) (fun v h' => Oq E os n t (putD f d v) h') .mk := by
 show wpOps E _ n f h = _
 rw [o_one]; rfl
theorem o_iaddrA {len es : Nat} {x i : Opd} : Oq E (⟨d, .iaddrA len es x i, none⟩ :: os) n t f h = Vq (iaddrBP len es (x.ev f) (i.ev f) h) (fun v h' => Oq E os n t (putD f d v) h') .mk := by
 show wpOps E _ n f h = _
 rw [o_one]; rfl
theorem o_indexS {x i : Opd} : Oq E (⟨d, .indexS x i, none⟩ :: os) n t f h = Vq (indexSP (x.ev f) (i.ev f) h) (fun v h' => Oq E os n t (putD f d v) h') .mk := by
 show wpOps E _ n f h = _
 rw [o_one]; rfl
theorem o_indexA {len es : Nat} {k : Option Nat} {x i : Opd} : Oq E (⟨d, .indexA len es k x i, none⟩ :: os) n t f h = Vq (indexAP len es k (x.ev f) (i.ev f) h) (fun v h' => Oq E os n t (putD f d v) h') .mk := by
 show wpOps E _ n f h = _
 rw [o_one]; rfl
theorem o_extract {i : Nat} {x : Opd} : Oq E (⟨d, .extract i x, none⟩ :: os) n t f h = Vq (extractP i (x.ev f) h) (fun v h' => Oq E os n t (putD f d v) h') .mk := by
 show wpOps E _ n f h = _
 rw [o_one]; rfl
theorem o_len {b : Bool} {x : Opd} : Oq E (⟨d, .len b x, none⟩ :: os) n t f h = Vq (lenP b (x.ev f) h) (fun v h' => Oq E os n t (putD f d v) h') .mk := by
 show wpOps E _ n f h = _
 rw [o_one]; rfl
theorem o_min {x y : Opd} : Oq E (⟨d, .min x y, none⟩ :: os) n t f h = Vq (minP (x.ev f) (y.ev f) h) (fun v h' => Oq E os n t (putD f d v) h') .mk := by
 show wpOps E _ n f h = _
 rw [o_one]; rfl
theorem o_app {es bytes : Nat} {u8 : Bool} {x y : Opd} : Oq E (⟨d, .app es bytes u8 x y, none⟩ :: os) n t f h = Vq (appP es bytes u8 (x.ev f) (y.ev f) h) (fun v h' => Oq E os n t (putD f d v) h') .mk := by
 show wpOps E _ n f h = _
 rw [o_one]; rfl
theorem o_call {g : Opd} {as : List Opd} : Oq E (⟨d, .call g as, none⟩ :: os) n t f h = Fq E (g.ev f) (as.map (Opd.ev f)) h (fun v h' => Oq E os n t (putD f d v) h') .mk := by
 show wpOps E _ n f h = _
 rw [o_one]; rfl
theorem o_pcall {g : FuncId} {as : List Opd} : Oq E (⟨d, .pcall g as, none⟩ :: os) n t f h = Pq E g (stAll f as) (fun v => Oq E os n t (putD f d v) h) .mk := by
 show wpOps E _ n f h = _
 rw [o_one]; rfl
theorem o_ocall {g : FuncId} {as : List Opd} : Oq E (⟨d, .ocall g as, none⟩ :: os) n t f h = Hq E g (stAll f as) (fun v => Oq E os n t (putD f d v) h) .mk := by
 show wpOps E _ n f h = _
 rw [o_one]; rfl
end
end

end Go.Proofs.YtmngkcpobmhnoaaGreatDoor.Sim
/- Rules for simp: values and heaps. -/
namespace Go.Proofs.YtmngkcpobmhnoaaGreatDoor.Sim
section
variable {E : Env} {f : Fr} {h : Heap}

def consO {α : Type} (a : Option α) (b : Option (List α)) : Option (List α) := match a, b with
 | some y, some ys => some (y :: ys)
 | _, _ => none
theorem a_cons {α : Type} {y : α} {ys : List α} : consO (some y) (some ys) = some (y :: ys) := nr rfl
theorem a_val {v : PV} : valP (some v) h = some (v, h) := nr rfl
theorem a_pickand {t x : Bool} : (if t = true then PV.bool x else PV.bool false) = .bool (t && x) := by cases t <;> exact nr rfl
theorem a_pickor {t x : Bool} : (if t = true then PV.bool true else PV.bool x) = .bool (t || x) := by cases t <;> exact nr rfl
theorem a_box {ty : TypeId} {x : PV} : boxP ty x h = if x.cells.all PV.one = true then some (.ptr h.n 0, h.newBox ty x.cells) else none := nr rfl
theorem a_mkifi {ty : TypeId} {k : IntKind} {n : Int} : mkifP ty (.int k n) h = some (.ifcI ty k n, h) := nr rfl
theorem a_mkifp {ty : TypeId} {i o : Nat} : mkifP ty (.ptr i o) h = some (.ifc, h) := nr rfl
theorem a_mkifs {ty : TypeId} {s : List UInt8} : mkifP ty (.str s) h = some (.ifc, h) := nr rfl
theorem a_agg {cs : List PV} : aggP (some cs) h = some (.agg cs, h) := nr rfl
theorem a_fill0 {cs : List PV} : fillP f cs [] = some cs := nr rfl
theorem a_fill1 {cs : List PV} {off sz : Nat} {x : Opd} {rest : List (Nat × Nat × Opd)} : fillP f cs ((off, sz, x) :: rest) =
  if (x.ev f).cells.length = sz ∧ off + sz ≤ cs.length ∧ (x.ev f).cells.all PV.one = true then fillP f (setAt cs off (x.ev f).cells) rest else none := nr rfl
theorem a_set0 {cs : List PV} {off : Nat} : setAt cs off [] = cs := nr rfl
theorem a_set1 {cs : List PV} {off : Nat} {v : PV} {vs : List PV} : setAt cs off (v :: vs) = setAt (cs.set off v) (off + 1) vs := nr rfl
def loadB (o : Option (List PV)) (off : Nat) (n : Option Nat) (h : Heap) : Option (PV × Heap) := o.bind fun cs => (readAt cs off n).map fun v => (v, h)
theorem a_loadp {id off : Nat} {n : Option Nat} : loadP h (.ptr id off) n = loadB (h.box id) off n h := nr rfl
theorem a_loadb {cs : List PV} {off : Nat} {n : Option Nat} : loadB (some cs) off n h = valP (readAt cs off n) h := nr rfl
theorem a_loadc {cs : List PV} {off : Nat} {n : Option Nat} : loadP h (.cptr cs off) n = valP (readAt cs off n) h := nr rfl
theorem a_read1 {cs : List PV} {off : Nat} : readAt cs off none = cs[off]? := nr rfl
theorem a_readn {cs : List PV} {off n : Nat} (hl : off + n ≤ cs.length) : readAt cs off (some n) = some (.agg ((cs.drop off).take n)) := by simp [readAt, hl]
def storeB (o : Option (List PV)) (id off n : Nat) (vs : List PV) (h : Heap) : Option (PV × Heap) := o.bind fun cs => if vs.length = n ∧ off + n ≤ cs.length ∧ vs.all PV.one = true then some (undefP, h.setBox id (setAt cs off vs)) else none
theorem a_storep {id off n : Nat} {vs : List PV} : storeP h (.ptr id off) n vs = storeB (h.box id) id off n vs h := nr rfl
theorem a_storeb {cs : List PV} {id off n : Nat} {vs : List PV} : storeB (some cs) id off n vs h = if vs.length = n ∧ off + n ≤ cs.length ∧ vs.all PV.one = true then some (undefP, h.setBox id (setAt cs off vs)) else none := nr rfl
theorem a_nilp {id off : Nat} : nilckP (.ptr id off) h = some (.ptr id off, h) := nr rfl
theorem a_nilc {cs : List PV} {off : Nat} : nilckP (.cptr cs off) h = some (.cptr cs off, h) := nr rfl
theorem a_nilf {g : FuncId} {x y : List PV} : nilckP (.func g x y) h = some (.func g x y, h) := nr rfl
section
variable {e : EqK} {k : IntKind} {a b : Int}
theorem a_add : binP .add e (.int k a) (.int k b) = some (.int k (k.wrap (a + b))) := by simp [binP, intP]
theorem a_sub : binP .sub e (.int k a) (.int k b) = some (.int k (k.wrap (a - b))) := by simp [binP, intP]
theorem a_mul : binP .mul e (.int k a) (.int k b) = some (.int k (k.wrap (a * b))) := by simp [binP, intP]
theorem a_quo : binP .quo e (.int k a) (.int k b) = if ¬ b = 0 then some (.int k (k.wrap (a.tdiv b))) else none := by simp [binP, intP]
theorem a_eql : binP .eql e (.int k a) (.int k b) = some (.bool (a == b)) := by simp [binP, intP]
theorem a_neq : binP .neq e (.int k a) (.int k b) = some (.bool (!(a == b))) := by simp [binP, intP, bne]
theorem a_lss : binP .lss e (.int k a) (.int k b) = some (.bool (decide (a < b))) := by simp [binP, intP]
theorem a_leq : binP .leq e (.int k a) (.int k b) = some (.bool (decide (a ≤ b))) := by simp [binP, intP]
theorem a_gtr : binP .gtr e (.int k a) (.int k b) = some (.bool (decide (b < a))) := by simp [binP, intP]
theorem a_geq : binP .geq e (.int k a) (.int k b) = some (.bool (decide (b ≤ a))) := by simp [binP, intP]
theorem a_shl {k' : IntKind} : binP .shl e (.int k a) (.int k' b) = if ¬ b < 0 then some (.int k (k.wrap (a * 2 ^ (min b.toNat k.bits)))) else none := by
 simp only [binP]; split <;> simp_all
theorem a_shr {k' : IntKind} : binP .shr e (.int k a) (.int k' b) = if ¬ b < 0 then some (.int k (a.fdiv (2 ^ (min b.toNat k.bits)))) else none := by
 simp only [binP]; split <;> simp_all
variable {s t : List UInt8}
theorem a_sadd (hl : s.length + t.length ≤ 9223372036854775807) : binP .add e (.str s) (.str t) = some (.str (s ++ t)) := by simp [binP, strP, hl]
theorem a_seql : binP .eql e (.str s) (.str t) = some (.bool (s == t)) := by simp [binP, strP]
theorem a_sneq : binP .neq e (.str s) (.str t) = some (.bool (!(s == t))) := by simp [binP, strP]
theorem a_slss : binP .lss e (.str s) (.str t) = some (.bool (bytesLess s t)) := by simp [binP, strP]
theorem a_sgtr : binP .gtr e (.str s) (.str t) = some (.bool (!(bytesLess s t || s == t))) := by simp [binP, strP]
theorem a_beql {x y : Bool} : binP .eql .bool (.bool x) (.bool y) = some (.bool (x == y)) := by simp [binP, eqP]
theorem a_bneq {x y : Bool} : binP .neq .bool (.bool x) (.bool y) = some (.bool (!(x == y))) := by simp [binP, eqP]
theorem a_aeql {ts : List TypeDesc} {x y : List PV} : binP .eql (.agg ts) (.agg x) (.agg y) = (tagsEq ts x y).map .bool := by simp [binP, eqP]
theorem a_aneq {ts : List TypeDesc} {x y : List PV} : binP .neq (.agg ts) (.agg x) (.agg y) = (tagsEq ts x y).map fun b => .bool !b := by simp [binP, eqP]
theorem a_ineqn : binP .neq .iface .nilIface .nilIface = some (.bool false) := by simp [binP, eqP]
theorem a_ineqc : binP .neq .iface .ifc .nilIface = some (.bool true) := by simp [binP, eqP]
theorem a_ineqi {ty : TypeId} {n : Int} : binP .neq .iface (.ifcI ty k n) .nilIface = some (.bool true) := by simp [binP, eqP]
theorem a_ieqn : binP .eql .iface .nilIface .nilIface = some (.bool true) := by simp [binP, eqP]
theorem a_ieqc : binP .eql .iface .ifc .nilIface = some (.bool false) := by simp [binP, eqP]
theorem a_ieqi {ty : TypeId} {n : Int} : binP .eql .iface (.ifcI ty k n) .nilIface = some (.bool false) := by simp [binP, eqP]
theorem a_ieq2 {ts : List TypeId} {ty : TypeId} {n m : Int} (hm : ty ∈ ts) : binP .eql (.ifaceI ts) (.ifcI ty k n) (.ifcI ty k m) = some (.bool (n == m)) := by simp [binP, eqP, hm]
theorem a_peq0 {i o : Nat} : binP .eql .ptr (.ptr i o) .nilptr = some (.bool false) := by simp [binP, eqP]
theorem a_peq1 : binP .eql .ptr .nilptr .nilptr = some (.bool true) := by simp [binP, eqP]
theorem a_pne0 {i o : Nat} : binP .neq .ptr (.ptr i o) .nilptr = some (.bool true) := by simp [binP, eqP]
theorem a_pne1 : binP .neq .ptr .nilptr .nilptr = some (.bool false) := by simp [binP, eqP]
theorem a_not {x : Bool} : unP .not (.bool x) = some (.bool (!x)) := by simp [unP]
theorem a_neg : unP .neg (.int k a) = some (.int k (k.wrap (0 - a))) := by simp [unP]
theorem a_convi {k' : IntKind} : convP (.int k) (.int k' a) h = some (.int k (k.wrap a), h) := nr rfl
theorem a_convs : convP .same (.str s) h = some (.str s, h) := nr rfl
theorem a_ev0 : evO f none = none := nr rfl
theorem a_ev1 {x : Opd} : evO f (some x) = some (x.ev f) := nr rfl
theorem a_bnd0 {d y : Nat} : bndP d y none = some d := nr rfl
theorem a_bnd1 {d y : Nat} : bndP d y (some (.int k a)) = if 0 ≤ a ∧ a ≤ y then some a.toNat else none := nr rfl
theorem a_slS00 : sliceSP (.str s) none none h = some (.str s, h) := by simp [sliceSP, bndP]
theorem a_slS10 : sliceSP (.str s) (some (.int k a)) none h = if 0 ≤ a ∧ a ≤ s.length then some (.str (s.drop a.toNat), h) else none := by
 simp only [sliceSP, bndP, Option.bind_some]
 split <;> simp
theorem a_slS01 : sliceSP (.str s) none (some (.int k b)) h = if 0 ≤ b ∧ b ≤ s.length then some (.str (s.take b.toNat), h) else none := by
 simp only [sliceSP, bndP]
 split <;> simp
theorem a_slS11 {k' : IntKind} : sliceSP (.str s) (some (.int k a)) (some (.int k' b)) h = if 0 ≤ a ∧ a ≤ b ∧ b ≤ s.length then some (.str ((s.take b.toNat).drop a.toNat), h) else none := by
 simp only [sliceSP, bndP, Option.bind_some]
 by_cases h1 : 0 ≤ b ∧ b ≤ s.length
 ·rw [if_pos h1]
  simp only [Option.bind_some]
  by_cases h2 : 0 ≤ a ∧ a ≤ b
  ·rw [if_pos (by omega), if_pos (by omega)]; rfl
  ·rw [if_neg (by omega), if_neg (by omega)]; rfl
 ·rw [if_neg h1, if_neg (by omega)]; rfl
variable {o : Own} {es : Nat} {L : List (List PV)}
theorem a_sl10 {z : Nat} (hz : esOk z (.slice o es L) = true) : sliceP z (.slice o es L) (some (.int k a)) none none h = if 0 ≤ a ∧ a ≤ L.length then some (.slice (subOwn o (a = 0)) es (L.drop a.toNat), h) else none := by
 simp only [sliceP, hz, if_true, bndP, Option.bind_some]
 split
 ·rename_i hc
  simp only [Option.map_some, List.take_length, and_true]
  have : (a.toNat = 0) ↔ a = 0 := by omega
  cases o <;> simp [subOwn, this]
 ·rfl
theorem a_sl01 {z : Nat} (hz : esOk z (.slice o es L) = true) : sliceP z (.slice o es L) none (some (.int k b)) none h = if 0 ≤ b ∧ b ≤ L.length then some (.slice (subOwn o (b = L.length)) es (L.take b.toNat), h) else none := by
 simp only [sliceP, hz, if_true, bndP]
 split
 ·rename_i hc
  simp only [Option.bind_some, Option.map_some, List.drop_zero, true_and]
  have : (b.toNat = L.length) ↔ b = L.length := by omega
  cases o <;> simp [subOwn, this]
 ·rfl
theorem a_esok : esOk es (.slice o es L) = true := by cases o <;> simp [esOk]
theorem a_esnil {z : Nat} : esOk z (.slice .nil es L) = true := by simp [esOk]
theorem a_esstr : esOk 1 (.str s) = true := by simp [esOk]
theorem a_subn {c : Prop} [Decidable c] : subOwn .nil c = .nil := by simp [subOwn]
theorem a_subs {c : Prop} [Decidable c] : subOwn .shared c = .shared := by simp [subOwn]
theorem a_faddrp {id off k : Nat} : faddrP k (.ptr id off) h = some (.ptr id (off + k), h) := nr rfl
theorem a_faddrc {cs : List PV} {off k : Nat} : faddrP k (.cptr cs off) h = some (.cptr cs (off + k), h) := nr rfl
theorem a_field {cs : List PV} {k : Nat} {n : Option Nat} : fieldP k n (.agg cs) h = valP (readAt cs k n) h := nr rfl
theorem a_extract {i : Nat} {vs : List PV} : extractP i (.tuple vs) h = valP vs[i]? h := nr rfl
theorem a_lens : lenP true (.str s) h = some (.int .i64 s.length, h) := nr rfl
theorem a_lenl : lenP false (.slice o es L) h = some (.int .i64 L.length, h) := nr rfl
theorem a_min {k' : IntKind} : minP (.int k a) (.int k' b) h = some (.int k (if b < a then b else a), h) := nr rfl
end
theorem a_stall0 : stAll f [] = some [] := nr rfl
theorem a_stall1 {x : Opd} {xs : List Opd} : stAll f (x :: xs) = consO (x.ev f).st2 (stAll f xs) := by
 simp only [stAll, mapO, consO]; rfl
end
end Go.Proofs.YtmngkcpobmhnoaaGreatDoor.Sim
/- Rules for simp: values that go into calls, heaps, bytes; what calls come to. -/
namespace Go.Proofs.YtmngkcpobmhnoaaGreatDoor.Sim
section
variable {E : Env} {f : Fr} {h : Heap}
def all1 (vs : List PV) : Option (List PV) := mapO PV.st1 vs
def all2 (vs : List PV) : Option (List PV) := mapO PV.st2 vs
def bslO (es len : Nat) (o : Option (List PV)) (h : Heap) : Option (PV × Heap) := match o with
 | some cs' => some (.slice (.own h.n false) es (chunk es len cs'), h.newArr)
 | none => none
def st3O (o : Option PV) : Option PV := o.bind PV.st3
def resAll (f : Fr) (h : Heap) (rs : List RRes) : Option (List PV) := mapO (resP f h) rs
def packO (o : Option (List PV)) : Option PV := o.map packP
def readO (o : Option (List PV)) (off : Nat) (n : Option Nat) : Option PV := o.bind fun cs => readAt cs off n
def cellO (p : PV) (h : Heap) (n : Option Nat) : Option PV := match p with
 | .ptr id off => readO (h.box id) off n
 | _ => none
theorem st1_int {k : IntKind} {n : Int} : PV.st1 (.int k n) = some (.int k n) := nr rfl
theorem st2_int {k : IntKind} {n : Int} : PV.st2 (.int k n) = some (.int k n) := nr rfl
theorem st3_int {k : IntKind} {n : Int} : PV.st3 (.int k n) = some (.int k n) := nr rfl
theorem st1_bool {b : Bool} : PV.st1 (.bool b) = some (.bool b) := nr rfl
theorem st2_bool {b : Bool} : PV.st2 (.bool b) = some (.bool b) := nr rfl
theorem st3_bool {b : Bool} : PV.st3 (.bool b) = some (.bool b) := nr rfl
theorem st1_str {s : List UInt8} : PV.st1 (.str s) = some (.str s) := nr rfl
theorem st2_str {s : List UInt8} : PV.st2 (.str s) = some (.str s) := nr rfl
theorem st3_str {s : List UInt8} : PV.st3 (.str s) = some (.str s) := nr rfl
theorem st1_nilptr  : PV.st1 .nilptr = some .nilptr := nr rfl
theorem st2_nilptr  : PV.st2 .nilptr = some .nilptr := nr rfl
theorem st3_nilptr  : PV.st3 .nilptr = some .nilptr := nr rfl
theorem st1_nilfunc  : PV.st1 .nilfunc = some .nilfunc := nr rfl
theorem st2_nilfunc  : PV.st2 .nilfunc = some .nilfunc := nr rfl
theorem st3_nilfunc  : PV.st3 .nilfunc = some .nilfunc := nr rfl
theorem st1_nilIface  : PV.st1 .nilIface = some .nilIface := nr rfl
theorem st2_nilIface  : PV.st2 .nilIface = some .nilIface := nr rfl
theorem st3_nilIface  : PV.st3 .nilIface = some .nilIface := nr rfl
theorem st1_ifc  : PV.st1 .ifc = some .ifc := nr rfl
theorem st2_ifc  : PV.st2 .ifc = some .ifc := nr rfl
theorem st3_ifc  : PV.st3 .ifc = some .ifc := nr rfl
theorem st1_ifcI {t : TypeId} {k : IntKind} {n : Int} : PV.st1 (.ifcI t k n) = some (.ifcI t k n) := nr rfl
theorem st2_ifcI {t : TypeId} {k : IntKind} {n : Int} : PV.st2 (.ifcI t k n) = some (.ifcI t k n) := nr rfl
theorem st3_ifcI {t : TypeId} {k : IntKind} {n : Int} : PV.st3 (.ifcI t k n) = some (.ifcI t k n) := nr rfl
theorem st1_cptr {cs : List PV} {o : Nat} : PV.st1 (.cptr cs o) = some (.cptr cs o) := nr rfl
theorem st2_cptr {cs : List PV} {o : Nat} : PV.st2 (.cptr cs o) = some (.cptr cs o) := nr rfl
theorem st3_cptr {cs : List PV} {o : Nat} : PV.st3 (.cptr cs o) = some (.cptr cs o) := nr rfl
theorem cells_int {k : IntKind} {n : Int} : PV.cells (.int k n) = [(.int k n)] := nr rfl
theorem one_int {k : IntKind} {n : Int} : PV.one (.int k n) = true := nr rfl
theorem cells_bool {b : Bool} : PV.cells (.bool b) = [(.bool b)] := nr rfl
theorem one_bool {b : Bool} : PV.one (.bool b) = true := nr rfl
theorem cells_str {s : List UInt8} : PV.cells (.str s) = [(.str s)] := nr rfl
theorem one_str {s : List UInt8} : PV.one (.str s) = true := nr rfl
theorem cells_nilptr  : PV.cells .nilptr = [.nilptr] := nr rfl
theorem one_nilptr  : PV.one .nilptr = true := nr rfl
theorem cells_nilfunc  : PV.cells .nilfunc = [.nilfunc] := nr rfl
theorem one_nilfunc  : PV.one .nilfunc = true := nr rfl
theorem cells_nilIface  : PV.cells .nilIface = [.nilIface] := nr rfl
theorem one_nilIface  : PV.one .nilIface = true := nr rfl
theorem cells_ifc  : PV.cells .ifc = [.ifc] := nr rfl
theorem one_ifc  : PV.one .ifc = true := nr rfl
theorem cells_ifcI {t : TypeId} {k : IntKind} {n : Int} : PV.cells (.ifcI t k n) = [(.ifcI t k n)] := nr rfl
theorem one_ifcI {t : TypeId} {k : IntKind} {n : Int} : PV.one (.ifcI t k n) = true := nr rfl
theorem cells_cptr {cs : List PV} {o : Nat} : PV.cells (.cptr cs o) = [(.cptr cs o)] := nr rfl
theorem one_cptr {cs : List PV} {o : Nat} : PV.one (.cptr cs o) = true := nr rfl
theorem cells_ptr {i o : Nat} : PV.cells (.ptr i o) = [(.ptr i o)] := nr rfl
theorem one_ptr {i o : Nat} : PV.one (.ptr i o) = true := nr rfl
theorem cells_slice {w : Own} {e : Nat} {L : List (List PV)} : PV.cells (.slice w e L) = [(.slice w e L)] := nr rfl
theorem one_slice {w : Own} {e : Nat} {L : List (List PV)} : PV.one (.slice w e L) = true := nr rfl
theorem cells_func {g : FuncId} {x y : List PV} : PV.cells (.func g x y) = [(.func g x y)] := nr rfl
theorem one_func {g : FuncId} {x y : List PV} : PV.one (.func g x y) = true := nr rfl
theorem cells_yield {l : Nat} : PV.cells (.yield l) = [(.yield l)] := nr rfl
theorem one_yield {l : Nat} : PV.one (.yield l) = true := nr rfl
theorem cells_agg {cs : List PV} : PV.cells (.agg cs) = cs := nr rfl
theorem st1_func {g : FuncId} : PV.st1 (.func g [] []) = some (.func g [] []) := nr rfl
theorem st2_func {g : FuncId} : PV.st2 (.func g [] []) = some (.func g [] []) := nr rfl
theorem st3_func {g : FuncId} : PV.st3 (.func g [] []) = some (.func g [] []) := nr rfl
theorem st2_agg {cs : List PV} : PV.st2 (.agg cs) = (all1 cs).map .agg := nr rfl
theorem st3_agg {cs : List PV} : PV.st3 (.agg cs) = (all1 cs).map .agg := nr rfl
theorem st3_tuple {vs : List PV} : PV.st3 (.tuple vs) = (all2 vs).map .tuple := nr rfl
theorem all1_0 : all1 [] = some [] := nr rfl
theorem all1_1 {v : PV} {vs : List PV} : all1 (v :: vs) = consO v.st1 (all1 vs) := by simp only [all1, mapO, consO]; rfl
theorem all2_0 : all2 [] = some [] := nr rfl
theorem all2_1 {v : PV} {vs : List PV} : all2 (v :: vs) = consO v.st2 (all2 vs) := by simp only [all2, mapO, consO]; rfl
theorem bsl_1 {es len : Nat} {cs : List PV} : bsliceP es len (some cs) h = bslO es len (all1 cs) h := nr rfl
theorem h_empty : Heap.empty.n = 0 := nr rfl
theorem hn_box {ty : TypeId} {cs : List PV} : (h.newBox ty cs).n = h.n + 1 := nr rfl
theorem hn_set {i : Nat} {cs : List PV} : (h.setBox i cs).n = h.n := nr rfl
theorem hn_arr : h.newArr.n = h.n + 1 := nr rfl
theorem hn_grow {i : Nat} : (h.regrow i).n = h.n + 1 := nr rfl
theorem hn_loop {r : LoopRec} : (h.newLoop r).n = h.n + 1 := nr rfl
theorem hn_sloop {i : Nat} {r : LoopRec} : (h.setLoop i r).n = h.n := nr rfl
theorem hb_new {ty : TypeId} {cs : List PV} {i : Nat} (hi : i = h.n) : (h.newBox ty cs).box i = some cs := by simp [Heap.newBox, hi]
theorem hb_old {ty : TypeId} {cs : List PV} {i : Nat} (hi : i ≠ h.n) : (h.newBox ty cs).box i = h.box i := by simp [Heap.newBox, hi]
theorem hb_set {i : Nat} {cs : List PV} : (h.setBox i cs).box i = some cs := by simp [Heap.setBox]
theorem hb_oset {i j : Nat} {cs : List PV} (hi : j ≠ i) : (h.setBox i cs).box j = h.box j := by simp [Heap.setBox, hi]
theorem hb_arr {i : Nat} : h.newArr.box i = h.box i := nr rfl
theorem hb_grow {i j : Nat} : (h.regrow j).box i = h.box i := nr rfl
theorem hb_loop {i : Nat} {r : LoopRec} : (h.newLoop r).box i = h.box i := nr rfl
theorem hb_sloop {i j : Nat} {r : LoopRec} : (h.setLoop j r).box i = h.box i := nr rfl
theorem hl_box {ty : TypeId} {cs : List PV} {i : Nat} : (h.newBox ty cs).live i = h.live i := nr rfl
theorem hl_set {j : Nat} {cs : List PV} {i : Nat} : (h.setBox j cs).live i = h.live i := nr rfl
theorem hl_arr {i : Nat} (hi : i = h.n) : h.newArr.live i = true := by simp [Heap.newArr, hi]
theorem hl_oarr {i : Nat} (hi : i ≠ h.n) : h.newArr.live i = h.live i := by simp [Heap.newArr, hi]
theorem hl_grow {i j : Nat} (hi : i = h.n) : (h.regrow j).live i = true := by simp [Heap.regrow, hi]
theorem hl_ogrow {i j : Nat} (hi : i ≠ h.n) (hj : i ≠ j) : (h.regrow j).live i = h.live i := by simp [Heap.regrow, hi, hj]
theorem hl_loop {r : LoopRec} {i : Nat} : (h.newLoop r).live i = h.live i := nr rfl
theorem hl_sloop {r : LoopRec} {j i : Nat} : (h.setLoop j r).live i = h.live i := nr rfl
theorem ho_box {ty : TypeId} {cs : List PV} {i : Nat} : (h.newBox ty cs).loop i = h.loop i := nr rfl
theorem ho_set {j : Nat} {cs : List PV} {i : Nat} : (h.setBox j cs).loop i = h.loop i := nr rfl
theorem ho_arr {i : Nat} : h.newArr.loop i = h.loop i := nr rfl
theorem ho_grow {i j : Nat} : (h.regrow j).loop i = h.loop i := nr rfl
theorem ho_new {r : LoopRec} {i : Nat} (hi : i = h.n) : (h.newLoop r).loop i = some r := by simp [Heap.newLoop, hi]
theorem ho_old {r : LoopRec} {i : Nat} (hi : i ≠ h.n) : (h.newLoop r).loop i = h.loop i := by simp [Heap.newLoop, hi]
theorem ho_sset {r : LoopRec} {i : Nat} : (h.setLoop i r).loop i = some r := by simp [Heap.setLoop]
theorem ho_oset {r : LoopRec} {i j : Nat} (hi : j ≠ i) : (h.setLoop i r).loop j = h.loop j := by simp [Heap.setLoop, hi]

theorem wrap_i64 {n : Int} (h1 : -9223372036854775808 ≤ n) (h2 : n < 9223372036854775808) : IntKind.wrap .i64 n = n := by
 simp [IntKind.wrap, IntKind.bits, IntKind.signed]; omega
theorem call_ok {g : FuncId} {R : RFunc} (hR : E.fn g = some R) {first cap args : List PV} {N : PV → Heap → Prop} (hl : (first ++ args ++ cap).length = R.np)
  (hw : Wq E R.body ⟨fun f h => ∃ v, outP R f h = some v ∧ N v h, fun _ _ _ => False, fun f h => ∃ v, outP R f h = some v ∧ N v h⟩ .mk (frameOf (first ++ args ++ cap) 0) h) :
  CallC E (.func g first cap) args h N := callC_func hR hl hw
theorem fq_mono {g : PV} {args : List PV} {N n : PV → Heap → Prop} {t : Blk n} (hc : CallC E g args h N) (hn : ∀ v h, N v h → n v h) : Fq E g args h n t := hc.mono hn
theorem chk_0 : chkOk f [] = True := nr rfl
theorem chk_1 {c : Chk} {cs : List Chk} : chkOk f (c :: cs) = (apart (c.a.ev f) c.n (c.b.ev f) c.m ∧ chkOk f cs) := nr rfl
theorem apart_pp {i o j q a b : Nat} : apart (.ptr i o) a (.ptr j q) b = (i ≠ j ∨ o + a ≤ q ∨ q + b ≤ o) := nr rfl
theorem apart_c1 {cs : List PV} {o a b : Nat} {p : PV} : apart (.cptr cs o) a p b = True := by cases p <;> exact nr rfl
theorem apart_pc {cs : List PV} {o a b i q : Nat} : apart (.ptr i q) a (.cptr cs o) b = True := nr rfl
theorem apart_pu {a b i q : Nat} : apart (.ptr i q) a undefP b = True := nr rfl
theorem apart_up {a b i q : Nat} : apart undefP a (.ptr i q) b = True := nr rfl
theorem apart_uu {a b : Nat} : apart undefP a undefP b = True := nr rfl
theorem out_eq {R : RFunc} : outP R f h = packO (resAll f h R.results) := nr rfl
theorem res_0 : resAll f h [] = some [] := nr rfl
theorem res_1 {r : RRes} {rs : List RRes} : resAll f h (r :: rs) = consO (resP f h r) (resAll f h rs) := by simp only [resAll, mapO, consO]; rfl
theorem res_tmp {t : Nat} : resP f h (.tmp t) = some (f t) := nr rfl
theorem res_cell {t : Nat} {n : Option Nat} : resP f h (.cell t n) = cellO (f t) h n := nr rfl
theorem res_cellp {id off : Nat} {n : Option Nat} : cellO (.ptr id off) h n = readO (h.box id) off n := nr rfl
theorem res_read {cs : List PV} {off : Nat} {n : Option Nat} : readO (some cs) off n = readAt cs off n := nr rfl
theorem pack_0 : packO (some []) = some (.tuple []) := nr rfl
theorem pack_1 {v : PV} : packO (some [v]) = some v := nr rfl
theorem pack_2 {v w : PV} {vs : List PV} : packO (some (v :: w :: vs)) = some (.tuple (v :: w :: vs)) := nr rfl
theorem st3_some {v : PV} : st3O (some v) = v.st3 := nr rfl
theorem some_ex {v : PV} {P : PV → Prop} : (∃ w, some v = some w ∧ P w) = P v := by
 apply propext; constructor
 ·rintro ⟨w, e, h⟩; cases e; exact h
 ·intro h; exact ⟨v, rfl, h⟩
end
end Go.Proofs.YtmngkcpobmhnoaaGreatDoor.Sim
/- Operations within a region, calls among them; regions in the order of the text. -/
namespace Go.Proofs.YtmngkcpobmhnoaaGreatDoor.Sim

abbrev Fw (ro : Option Nat) : Fence := { Fence.wide with round := ro }

def Marks (lo : Nat) (K : KW) (w : World) (ds : List Deferred) : Prop :=
 ∃ rs : List Nat, ds.map (·.target) = rs.map Target.collected ∧ rs.Nodup ∧ ∀ r ∈ rs, lo ≤ r ∧ w.heap[r]? = some (.deferred (some [])) ∧ ¬ K.fp r

section
variable {P : Program} {C : CEnv} {K : KW} {h : Heap} {w : World} {nt lo : Nat} {f : Fr} {a : Act} {ro : Option Nat}

theorem Marks.step {K' : KW} {w' : World} {ds : List Deferred} (m : Marks lo K w ds) (st : Step K w K' w') : Marks lo K' w' ds := by
 obtain ⟨rs, h1, h2, h3⟩ := m
 refine ⟨rs, h1, h2, fun r hr => ?_⟩
 obtain ⟨g1, g2, g3⟩ := h3 r hr
 have hlt := lt_of_heap g2
 exact ⟨g1, by rw [st.same r hlt g3]; exact g2, fun hf => (st.fp r hf).elim g3 (fun q => absurd hlt (Nat.not_lt.2 q))⟩

structure Rel (P : Program) (C : CEnv) (ro : Option Nat) (nt lo : Nat) (K : KW) (h : Heap) (f : Fr) (a : Act) (w : World) : Prop where
 sat : Sat P C K h w
 fr : FrOK K nt f a.tmps
 marks : Marks lo K w a.defers
 round : ∀ l, ro = some l → ∃ id, id < K.n ∧ K.lp id = some l
 lo : lo ≤ w.heap.size

theorem Rel.step (r : Rel P C ro nt lo K h f a w) {K' : KW} {h' : Heap} {w' : World} (st : Step K w K' w') (s : Sat P C K' h' w') : Rel P C ro nt lo K' h' f a w' :=
 ⟨s, r.fr.mono st.le, r.marks.step st, fun l hl => let ⟨id, h1, h2⟩ := r.round l hl; ⟨id, Nat.lt_of_lt_of_le h1 st.le.n, by rw [st.le.lp id h1]; exact h2⟩, Nat.le_trans r.lo st.size⟩

theorem Rel.put (r : Rel P C ro nt lo K h f a w) {d : Option Nat} (hd : ∀ t, d = some t → t < nt) {p : PV} {v : Value} (hv : VR K p v) : Rel P C ro nt lo K h (putD f d p) (a.put d v) w := by
 cases d with
 | none => exact r
 | some d => exact { r with fr := r.fr.put (hd d rfl) hv }

structure ArgsOK (K : KW) (ps : List PV) (vs : Array Value) : Prop where
 size : ps.length = vs.size
 rel : ∀ (i : Nat) (p : PV) (v : Value), ps[i]? = some p → vs[i]? = some v → VR K p v

def CallPost (P : Program) (C : CEnv) (K : KW) (w : World) (h' : Heap) (r : PV) : Ending → World → Prop :=
 fun e w' => ∃ u K', e = .returned u ∧ VR K' r u ∧ Step K w K' w' ∧ Sat P C K' h' w'

def HasCode (P : Program) (g : FuncId) : Prop := ∃ fn, P.funcs[g]? = some fn ∧ fn.name ≠ "runtime.NumGoroutine" ∧ fn.body.isNone = false

structure CallSim (P : Program) (C : CEnv) (call : PV → List PV → Heap → Option (PV × Heap)) : Prop where
 func : ∀ g x y args h r h', call (.func g x y) args h = some (r, h') → ∀ K w b o vs, Sat P C K h w → VR K (.func g x y) (.func (.func g) b o) → ArgsOK K args vs →
  HasCode P g ∧ CallsIn Fence.wide 0 P g (b ++ vs ++ o) w (CallPost P C K w h' r)
 yield : ∀ l args h r h', call (.yield l) args h = some (r, h') → ∀ K w vs, Sat P C K h w → ArgsOK K args vs →
  ∃ b lr, K.lp l = some b ∧ w.heap[b]? = some (.loop lr) ∧ vs.size = lr.params.size ∧
   RoundIn Fence.wide 0 P b lr.fn ((lr.params.zip vs).foldl (fun tmps (t, a) => tmps.setIfInBounds t a) lr.tmps) lr.assign lr.body w (CallPost P C K w h' r)
 only : ∀ fv args h r, call fv args h = some r → (∃ g x y, fv = .func g x y) ∨ ∃ l, fv = .yield l

def K0 (im : Im) : KW := { n := 0, ρ := fun _ => none, im := im, gh := fun _ => none, lp := fun _ => none }

structure ImOK (C : CEnv) (im : Im) (w : World) : Prop where
 cell : ∀ b o v, im b o = some v → cellAt w.heap b o = some v
 glob : ∀ g cs, C.glob g = some cs → IR im (.cptr cs 0) (.pointer (some ⟨g, 0, none⟩))

def PurePost (C : CEnv) (im : Im) (w : World) (r : PV) : Ending → World → Prop :=
 fun e w' => ∃ u im', e = .returned u ∧ VR (K0 im') r u ∧ Im.le im im' ∧ (∀ b o, b < w.heap.size → im' b o = im b o) ∧ ImOK C im' w' ∧ SameEnv w w' ∧ w.heap.size ≤ w'.heap.size ∧
  ∀ b, b < w.heap.size → w'.heap[b]? = w.heap[b]?

def PureSim (P : Program) (C : CEnv) (pure : FuncId → List PV → Option PV) : Prop :=
 ∀ g as r, pure g as = some r → ∀ im w vs, ImOK C im w → ArgsOK (K0 im) as vs → HasCode P g ∧ CallsIn Fence.wide 0 P g vs w (PurePost C im w r)

theorem Sat.imOK (s : Sat P C K h w) : ImOK C K.im w := ⟨s.im, s.glob⟩

theorem VR.ofK0 {im : Im} {K : KW} (hi : Im.le im K.im) {p : PV} {v : Value} (hv : VR (K0 im) p v) : VR K p v :=
 hv.mono ⟨Nat.zero_le _, fun id hd => absurd hd (Nat.not_lt_zero _), fun id hd => absurd hd (Nat.not_lt_zero _), fun id hd => absurd hd (Nat.not_lt_zero _), hi⟩

theorem Sat.pureStep (s : Sat P C K h w) {im' : Im} {w' : World} (h1 : Im.le K.im im') (h2 : ∀ b o, b < w.heap.size → im' b o = K.im b o) (h3 : ImOK C im' w') (he : SameEnv w w') (hs : w.heap.size ≤ w'.heap.size)
  (hb : ∀ b, b < w.heap.size → w'.heap[b]? = w.heap[b]?) : Step K w { K with im := im' } w' ∧ Sat P C { K with im := im' } h w' := by
 have hle : K.le { K with im := im' } := ⟨Nat.le_refl _, fun _ _ => rfl, fun _ _ => rfl, fun _ _ _ h => h, h1⟩
 refine ⟨⟨he, hle, hs, fun b h => .inl h, fun b h _ => hb b h, fun b o h _ => h2 b o h⟩, ?_⟩
 exact { s with
  box := fun i cs hx => by
   obtain ⟨b, vs, g1, g2, g3⟩ := s.box i cs hx
   exact ⟨b, vs, g1, by rw [hb b (lt_of_heap g2)]; exact g2, g3.mono hle⟩
  boxim := fun i b o hx => by
   have : b < w.heap.size := s.fp_lt (.inl ⟨i, hx⟩)
   simp only
   rw [h2 b o this]; exact s.boxim i b o hx
  live := fun i hx => by
   obtain ⟨g, vs, ty, lo, hi, g1, g2, g3, g4, g5, g6⟩ := s.live i hx
   have hlt := lt_of_heap g2
   exact ⟨g, vs, ty, lo, hi, g1, by rw [hb _ hlt]; exact g2, g3, g4, g5, fun o ho => by simp only; rw [h2 _ _ hlt]; exact g6.1 o ho, g6.2⟩
  im := h3.cell
  lp := fun i r hx => by
   obtain ⟨b, lr, g1, g2, g3⟩ := s.lp i r hx
   exact ⟨b, lr, g1, by rw [hb b (lt_of_heap g2)]; exact g2, g3.mono hle⟩
  glob := h3.glob }

theorem st2_ir {p q : PV} {v : Value} (hp : VR K p v) (hq : p.st2 = some q) : VR (K0 K.im) q v := by
 cases p with
 | agg cs =>
  simp only [PV.st2, Option.map_eq_some_iff] at hq
  obtain ⟨cs', hcs, rfl⟩ := hq
  obtain ⟨vs, rfl, hc⟩ := hp.agg_inv
  refine .agg _ _ (by rw [mapO_length hcs, hc.size]) (fun p hp => ?_) (fun i p v hp hv => ?_)
  ·obtain ⟨i, hi⟩ := List.mem_iff_getElem?.1 hp
   obtain ⟨x, h1, h2⟩ := mapO_get' hcs i p hi
   have hlt : i < vs.size := by rw [← hc.size]; exact (List.getElem?_eq_some_iff.1 h1).1
   exact (st1_ir (hc.rel i x vs[i] h1 (by simp [hlt])) h2).one
  ·obtain ⟨x, h1, h2⟩ := mapO_get' hcs i p hp
   exact VR.ir (K := K0 K.im) (st1_ir (K := K) (hc.rel i x v h1 hv) h2)
 | _ => exact VR.ir (K := K0 K.im) (st1_ir (K := K) hp hq)

theorem st3_ir {p q : PV} {v : Value} (hp : VR K p v) (hq : p.st3 = some q) : VR (K0 K.im) q v := by
 cases p with
 | tuple vs =>
  simp only [PV.st3, Option.map_eq_some_iff] at hq
  obtain ⟨cs', hcs, rfl⟩ := hq
  obtain ⟨us, rfl, hs, hr⟩ := hp.tuple_inv
  refine .tuple _ _ (by rw [mapO_length hcs, hs]) (fun i p v hp hv => ?_)
  obtain ⟨x, h1, h2⟩ := mapO_get' hcs i p hp
  exact st2_ir (K := K) (hr i x v h1 hv) h2
 | _ => exact st2_ir (K := K) hp hq

theorem args_st2 {ps qs : List PV} {vs : Array Value} (ha : ArgsOK K ps vs) (hq : mapO PV.st2 ps = some qs) : ArgsOK (K0 K.im) qs vs :=
 ⟨by rw [mapO_length hq, ha.size], fun i p v hp hv => by
  obtain ⟨x, h1, h2⟩ := mapO_get' hq i p hp
  exact st2_ir (ha.rel i x v h1 hv) h2⟩

theorem run_callFunc {g : FuncId} (hc : HasCode P g) (vs : Array Value) (w : World) : (callFunc g vs).run P w = .ok (.enter g vs) w := by
 obtain ⟨fn, h1, h2, h3⟩ := hc
 unfold callFunc
 simp only [Sem.run_bind, run_program, Result.andThen_ok, h1]
 rw [if_neg (by simpa using h2), if_neg (by simp [h3])]
 rfl

theorem run_getLoop {b : Nat} {lr : Loop} (hb : w.heap[b]? = some (.loop lr)) : (Instr.getLoop b).run P w = .ok lr w := by
 simp [Instr.getLoop, getObj, Sem.run, hb]

theorem yielded_eq {ops : Array Oper} {tmps : Array Value} (hf : FrOK K nt f tmps) {j : Nat} {t : Nat} (ht : (ops[j]?).bind (·.dst) = some t) (b : Bool) :
  (yielded ops tmps j == some b) = (match f t with | .bool c => c == b | _ => false) := by
 have hv := hf.rel t
 unfold yielded
 rw [ht]
 simp only [Option.bind_some]
 by_cases hlt : t < tmps.size
 ·have e : tmps.getD t Go.undef = tmps[t] := by simp [Array.getD, hlt]
  rw [e] at hv
  rw [Array.getElem?_eq_getElem hlt]
  cases hp : f t with
  | bool c =>
   rw [hp] at hv
   rw [hv.bool_inv]
   cases c <;> cases b <;> rfl
  | _ =>
   rw [hp] at hv
   generalize tmps[t] = u at hv
   cases u with
   | bool c =>
    exfalso
    cases hv with
    | ir hv => cases hv
   | _ => rfl
 ·rw [Array.getElem?_eq_none (by omega)]
  have e : tmps.getD t Go.undef = Go.undef := by simp [Array.getD, hlt]
  rw [e] at hv
  cases hp : f t with
  | bool c => rw [hp] at hv; have := hv.bool_inv; cases this
  | _ => rfl

def Next1 (P : Program) (C : CEnv) (ro : Option Nat) (nt lo : Nat) (K : KW) (w : World) (h' : Heap) (f' : Fr) (a : Act) (d : Option Nat) (p : PV) (next : Act → World → Prop) : Prop :=
 ∀ K' v w', VR K' p v → Step K w K' w' → Rel P C ro nt lo K' h' f' a w' → next (a.put d v) w'

theorem wpIn_of {o : Oper} {F : Fence} {n : Nat} {next : Act → World → Prop} {Q : Exit → Act → World → Prop} (hF : ∀ f, F.fn f) (hnd : ∀ c, o.op ≠ .defer c) (h : o.uponIn F n P a next Q ((execOp a.eval o).run P w)) : o.wpIn F n P a w next Q :=
 ⟨fun f _ => hF f, by rw [Oper.semAt_eq _ _ _ hnd]; exact h⟩

theorem notDefer {o : Oper} {r : ROp} (hc : cOp P C o.op = some r) (c : Call) : o.op ≠ .defer c := by
 intro e; rw [e] at hc; cases hc

theorem op_wp (r : Rel P C ro nt lo K h f a w) {o : Oper} {rop : ROp} (hc : cOp P C o.op = some rop) {orc pure : FuncId → List PV → Option PV} {call : PV → List PV → Heap → Option (PV × Heap)}
  (hcall : CallSim P C call) (hpure : PureSim P C pure) (horc : PureSim P C orc) {p : PV} {h' : Heap} (he : evalOp orc pure call rop f h = some (p, h')) {next : Act → World → Prop} {Q : Exit → Act → World → Prop}
  (hn : Next1 P C ro nt lo K w h' f a o.dst p next) : o.wpIn (Fw ro) 0 P a w next Q := by
 refine wpIn_of (fun _ => trivial) (notDefer hc) ?_
 by_cases hnc : rop.isCall = false
 ·obtain ⟨v, w', K', hr, hv, hst, hs⟩ := op_sim r.sat r.fr hc hnc orc pure call he
  rcases hr with hr | ⟨hr, rfl⟩
  ·rw [hr]; exact hn K' v w' hv hst (r.step hst hs)
  ·rw [hr]; exact hn K' _ w' hv hst (r.step hst hs)
 ·obtain ⟨dst, op, ty, pos, after, guard⟩ := o
  simp only at hc
  have hop : ∃ c, op = .call c := by
   cases op with
   | call c => exact ⟨c, rfl⟩
   | makeFunc fn x y =>
    exfalso
    apply hnc
    cases fn <;> first
     | (cases hc; done)
     | skip
    simp only [cOp] at hc
    split at hc
    ·cases hc; rfl
    ·cases hc
   | _ =>
    exfalso
    apply hnc
    simp only [cOp] at hc
    repeat' split at hc
    all_goals first
     | (cases hc; rfl)
     | (cases hc; done)
     | (simp only [Option.map_eq_some_iff, Option.bind_eq_some_iff] at hc; obtain ⟨_, _, rfl⟩ := hc; rfl)
     | (simp only [Option.map_eq_some_iff, Option.bind_eq_some_iff] at hc; obtain ⟨_, _, _, _, rfl⟩ := hc; rfl)
  obtain ⟨c, rfl⟩ := hop
  obtain ⟨callee, args, argTypes⟩ := c
  simp only [cOp, cCall] at hc
  cases callee with
  | invoke => cases hc
  | builtin bt =>
   exfalso
   apply hnc
   cases bt <;> simp only at hc <;> (repeat' split at hc) <;> first
    | (cases hc; done)
    | (cases hc; rfl)
    | (simp only [Option.map_eq_some_iff] at hc; obtain ⟨_, _, rfl⟩ := hc; rfl)
  | value g =>
   have hcall' : ∀ (g' : Opd) (as : List Opd), cOpd C g = some g' → cOpds C args.toList = some as → call (g'.ev f) (as.map (Opd.ev f)) h = some (p, h') →
     Oper.uponIn (Fw ro) 0 P { dst, op := .call { callee := .value g, args, argTypes }, type := ty, pos, after, guard } a next Q
      ((execOp a.eval { dst, op := .call { callee := .value g, args, argTypes }, type := ty, pos, after, guard }).run P w) := by
    intro g' as hg has hcl
    obtain ⟨a1, a2⟩ := opds_sim r.sat r.fr has
    have hgv := opd_sim r.sat r.fr hg
    rcases hcall.only _ _ _ _ hcl with ⟨k, x, y, e⟩ | ⟨l, e⟩
    ·rw [e] at hgv hcl
     obtain ⟨b, o, hev, _⟩ := hgv.func_inv
     rw [hev] at hgv
     obtain ⟨q1, q2⟩ := hcall.func k x y _ h p h' hcl K w b o _ r.sat hgv ⟨a1, a2⟩
     have hrun : (execOp a.eval { dst, op := .call { callee := .value g, args, argTypes }, type := ty, pos, after, guard }).run P w = .ok (.enter k (b ++ args.map a.eval ++ o)) w := by
      simp only [execOp, resolve, hev, Deferred.ofValue, Sem.run_bind, Sem.run_pure, Result.andThen_ok, invoke, run_callFunc q1]
     rw [hrun]
     refine ⟨fun h => by simp [Fence.wide] at h, CallsIn.mono q2 ?_⟩
     rintro e' w' ⟨u, K', rfl, hv, hst, hs⟩
     exact hn K' u w' hv hst (r.step hst hs)
    ·rw [e] at hgv hcl
     obtain ⟨b0, hev, hb0, _⟩ := hgv.yield_inv
     obtain ⟨b, lr, q1, q2, q3, q4⟩ := hcall.yield l _ h p h' hcl K w _ r.sat ⟨a1, a2⟩
     rw [hb0] at q1; cases q1
     have hrun : (execOp a.eval { dst, op := .call { callee := .value g, args, argTypes }, type := ty, pos, after, guard }).run P w =
       .ok (.round b0 lr.fn ((lr.params.zip (args.map a.eval)).foldl (fun tmps (t, a) => tmps.setIfInBounds t a) lr.tmps) lr.assign lr.body) w := by
      have hne : ¬ ((args.map a.eval).size ≠ lr.params.size) := by rw [q3]; simp
      simp only [execOp, resolve, hev, Deferred.ofValue, Sem.run_bind, Sem.run_pure, Result.andThen_ok, invoke, Instr.yield, run_getLoop q2, Array.empty_append]
      rw [if_neg hne]
      rfl
     rw [hrun]
     refine ⟨fun h => by simp [Fence.wide] at h, RoundIn.mono q4 ?_⟩
     rintro e' w' ⟨u, K', rfl, hv, hst, hs⟩
     exact hn K' u w' hv hst (r.step hst hs)
   have hpure' : ∀ (k : FuncId) (as : List Opd) (fn : FuncId → List PV → Option PV), PureSim P C fn → g = .func k → cOpds C args.toList = some as →
     ((mapO (fun x => (Opd.ev f x).st2) as).bind fun as => (fn k as).map fun v => (v, h)) = some (p, h') →
     Oper.uponIn (Fw ro) 0 P { dst, op := .call { callee := .value g, args, argTypes }, type := ty, pos, after, guard } a next Q
      ((execOp a.eval { dst, op := .call { callee := .value g, args, argTypes }, type := ty, pos, after, guard }).run P w) := by
    intro k as fn hfn hgk has hev
    subst hgk
    obtain ⟨a1, a2⟩ := opds_sim r.sat r.fr has
    cases hm : mapO (fun x => (Opd.ev f x).st2) as with
    | none => rw [hm] at hev; cases hev
    | some qs =>
     rw [hm] at hev
     simp only [Option.bind_some, Option.map_eq_some_iff] at hev
     obtain ⟨v, hv, hev⟩ := hev
     cases hev
     have hm' : mapO PV.st2 (as.map (Opd.ev f)) = some qs := by
      rw [← hm]
      clear hm a1 a2 has
      induction as with
      | nil => rfl
      | cons x xs ih => simp only [List.map_cons, mapO, ih]
     obtain ⟨q1, q2⟩ := hfn k qs p hv K.im w _ r.sat.imOK (args_st2 ⟨a1, a2⟩ hm')
     have hrun : (execOp a.eval { dst, op := .call { callee := .value (.func k), args, argTypes }, type := ty, pos, after, guard }).run P w = .ok (.enter k (args.map a.eval)) w := by
      simp only [execOp, resolve, Act.eval, Deferred.ofValue, Sem.run_bind, Sem.run_pure, Result.andThen_ok, invoke, Array.empty_append, Array.append_empty]
      exact run_callFunc q1 _ w
     rw [hrun]
     refine ⟨fun h => by simp [Fence.wide] at h, CallsIn.mono q2 ?_⟩
     rintro e' w' ⟨u, im', rfl, hv', i1, i2, i3, i4, i5, i6⟩
     obtain ⟨s1, s2⟩ := r.sat.pureStep i1 i2 i3 i4 i5 i6
     exact hn _ u w' (hv'.ofK0 (fun _ _ _ h => h)) s1 (r.step s1 s2)
   cases g with
   | func k =>
    simp only [Option.map_eq_some_iff] at hc
    obtain ⟨as, has, rfl⟩ := hc
    split at he
    ·exact hpure' k as orc horc rfl has (by simpa only [evalOp] using he)
    ·split at he
     ·exact hpure' k as pure hpure rfl has (by simpa only [evalOp] using he)
     ·exact hcall' (.const (.func k [] [])) as rfl has (by simpa only [evalOp] using he)
   | _ =>
    simp only at hc
    split at hc
    ·rename_i g' as h1 h2
     cases hc
     exact hcall' g' as h1 h2 (by simpa only [evalOp] using he)
    ·cases hc

theorem cOper_inv {ops : Array Oper} {o : Oper} {x : ROper} (hc : cOper P C nt ops o = some x) :
  cOp P C o.op = some x.op ∧ cGuard ops o.guard = some x.guard ∧ x.dst = o.dst ∧ ∀ t, o.dst = some t → t < nt := by
 unfold cOper at hc
 split at hc
 ·rename_i r g h1 h2
  split at hc
  ·rename_i d hd
   split at hc
   ·rename_i hlt
    cases hc
    exact ⟨h1, h2, hd.symm, fun t ht => by rw [hd] at ht; cases ht; exact hlt⟩
   ·cases hc
  ·rename_i hd
   cases hc
   exact ⟨h1, h2, hd.symm, fun t ht => by rw [hd] at ht; cases ht⟩
 ·cases hc

theorem wanted_eq (r : FrOK K nt f a.tmps) {ops : Array Oper} {o : Oper} {g : Option (Nat × Bool)} (hg : cGuard ops o.guard = some g) : Region.wanted o (yielded ops a.tmps) = wantedP f g := by
 unfold Region.wanted wantedP
 cases hgd : o.guard with
 | none => rw [hgd] at hg; cases hg; rfl
 | some jb =>
  obtain ⟨j, b⟩ := jb
  rw [hgd] at hg
  simp only [cGuard, Option.map_eq_some_iff] at hg
  obtain ⟨t, ht, rfl⟩ := hg
  exact yielded_eq r ht b

theorem oper_wp (r : Rel P C ro nt lo K h f a w) {ops : Array Oper} {i : Nat} {o : Oper} {x : ROper} (hi : ops[i]? = some o) (hc : cOper P C nt ops o = some x) {orc pure : FuncId → List PV → Option PV}
  {call : PV → List PV → Heap → Option (PV × Heap)} (hcall : CallSim P C call) (hpure : PureSim P C pure) (horc : PureSim P C orc) {p : PV} {h' : Heap}
  (he : (if wantedP f x.guard then evalOp orc pure call x.op f h else some (undefP, h)) = some (p, h')) {next : Act → World → Prop} {Q : Exit → Act → World → Prop}
  (hn : ∀ K' a' w', Step K w K' w' → Rel P C ro nt lo K' h' (putD f x.dst p) a' w' → a'.defers = a.defers → next a' w') : wpOpIn (Fw ro) 0 P ops Q i next a w := by
 obtain ⟨c1, c2, c3, c4⟩ := cOper_inv hc
 have hdf : ∀ (d : Option Nat) (v : Value), (a.put d v).defers = a.defers := fun d v => by cases d <;> rfl
 unfold wpOpIn
 rw [hi]
 simp only
 rw [wanted_eq r.fr c2]
 split
 ·rename_i hw
  rw [if_pos hw] at he
  refine op_wp r c1 hcall hpure horc he (fun K' v w' hv hst hr => hn K' _ w' hst ?_ (hdf _ _))
  rw [c3]; exact hr.put c4 hv
 ·rename_i hw
  rw [if_neg hw] at he
  cases he
  refine ⟨fun _ _ => trivial, hn K _ w (.refl K w) ?_ (hdf _ _)⟩
  rw [c3]; exact r.put c4 (vr_undef K)

theorem evalOps_cons {orc pure : FuncId → List PV → Option PV} {call : PV → List PV → Heap → Option (PV × Heap)} {x : ROper} {rest : List ROper} {r : Fr × Heap} (he : evalOps orc pure call (x :: rest) f h = some r) :
  ∃ p h1, (if wantedP f x.guard then evalOp orc pure call x.op f h else some (undefP, h)) = some (p, h1) ∧ evalOps orc pure call rest (putD f x.dst p) h1 = some r := by
 simp only [evalOps] at he
 split at he
 ·rename_i hw
  cases ho : evalOp orc pure call x.op f h with
  | none => rw [ho] at he; cases he
  | some q =>
   rw [ho] at he
   obtain ⟨p, h1⟩ := q
   exact ⟨p, h1, by rw [if_pos hw], he⟩
 ·rename_i hw
  exact ⟨undefP, h, by rw [if_neg hw], he⟩

theorem ops_wp {ops : Array Oper} {rs : List ROper} (hrs : mapO (cOper P C nt ops) ops.toList = some rs) {orc pure : FuncId → List PV → Option PV}
  {call : PV → List PV → Heap → Option (PV × Heap)} (hcall : CallSim P C call) (hpure : PureSim P C pure) (horc : PureSim P C orc) {Q : Exit → Act → World → Prop} {f' : Fr} {h' : Heap} :
  ∀ (m k : Nat) (K : KW) (h : Heap) (f : Fr) (a : Act) (w : World), ops.size = k + m → Rel P C ro nt lo K h f a w → evalOps orc pure call (rs.drop k) f h = some (f', h') →
   (∀ K' a' w', Step K w K' w' → Rel P C ro nt lo K' h' f' a' w' → Q .normal a' w') → wpOpsIn (Fw ro) 0 P ops Q (List.range' k m) a w
 | 0, k, K, h, f, a, w, hk, r, he, hq => by
  have hl := mapO_length hrs
  rw [List.drop_eq_nil_of_le (by simp at hl; omega)] at he
  cases he
  simp only [List.range'_zero, wpOpsIn]
  exact hq K a w (.refl K w) r
 | m + 1, k, K, h, f, a, w, hk, r, he, hq => by
  have hl := mapO_length hrs
  have hlt : k < rs.length := by simp at hl; omega
  have hko : k < ops.size := by omega
  obtain ⟨x, hx, hcx⟩ := mapO_get hrs k ops[k] (by simp [hko])
  rw [List.drop_eq_getElem_cons hlt] at he
  have hxe : rs[k] = x := by
   have := List.getElem?_eq_getElem hlt
   rw [this] at hx; exact Option.some.inj hx
  rw [hxe] at he
  obtain ⟨p, h1, e1, e2⟩ := evalOps_cons he
  rw [List.range'_succ, wpOpsIn_cons]
  refine oper_wp r (by simp [hko]) hcx hcall hpure horc e1 (fun K' a' w' hst hr _ => ?_)
  exact ops_wp hrs hcall hpure horc m (k + 1) K' h1 _ a' w' (by omega) hr e2 (fun K2 a2 w2 hst2 hr2 => hq K2 a2 w2 (hst.trans hst2) hr2)
end
end Go.Proofs.YtmngkcpobmhnoaaGreatDoor.Sim
/- Regions that draw their order: whatever order the edges allow, the same comes of it. First: what operations hang on. -/
namespace Go.Proofs.YtmngkcpobmhnoaaGreatDoor.Sim

structure WF (h : Heap) : Prop where
 box : ∀ id, h.n ≤ id → h.box id = none
 live : ∀ id, h.n ≤ id → h.live id = false
 loop : ∀ id, h.n ≤ id → h.loop id = none

structure WFle (h h' : Heap) : Prop where
 wf : WF h → WF h'
 n : h.n ≤ h'.n

theorem WFle.refl (h : Heap) : WFle h h := ⟨id, Nat.le_refl _⟩
theorem WFle.trans {h h' h'' : Heap} (a : WFle h h') (b : WFle h' h'') : WFle h h'' := ⟨fun w => b.wf (a.wf w), Nat.le_trans a.n b.n⟩

theorem wf_newBox (h : Heap) (ty : TypeId) (cs : List PV) : WFle h (h.newBox ty cs) :=
 ⟨fun w => ⟨fun id hi => by simp only [Heap.newBox] at hi ⊢; rw [if_neg (by omega)]; exact w.box id (by omega), fun id hi => w.live id (by simp only [Heap.newBox] at hi; omega), fun id hi => w.loop id (by simp only [Heap.newBox] at hi; omega)⟩, Nat.le_succ _⟩
theorem wf_newArr (h : Heap) : WFle h h.newArr :=
 ⟨fun w => ⟨fun id hi => w.box id (by simp only [Heap.newArr] at hi; omega), fun id hi => by simp only [Heap.newArr] at hi ⊢; rw [if_neg (by omega)]; exact w.live id (by omega), fun id hi => w.loop id (by simp only [Heap.newArr] at hi; omega)⟩, Nat.le_succ _⟩
theorem wf_regrow (h : Heap) (i : Nat) : WFle h (h.regrow i) :=
 ⟨fun w => ⟨fun id hi => w.box id (by simp only [Heap.regrow] at hi; omega), fun id hi => by
  simp only [Heap.regrow] at hi ⊢
  rw [if_neg (by omega)]
  split
  ·rfl
  ·exact w.live id (by omega), fun id hi => w.loop id (by simp only [Heap.regrow] at hi; omega)⟩, Nat.le_succ _⟩
theorem wf_newLoop (h : Heap) (r : LoopRec) : WFle h (h.newLoop r) :=
 ⟨fun w => ⟨fun id hi => w.box id (by simp only [Heap.newLoop] at hi; omega), fun id hi => w.live id (by simp only [Heap.newLoop] at hi; omega), fun id hi => by simp only [Heap.newLoop] at hi ⊢; rw [if_neg (by omega)]; exact w.loop id (by omega)⟩, Nat.le_succ _⟩
theorem wf_setBox {h : Heap} {id : Nat} (hx : h.box id ≠ none) (cs' : List PV) : WFle h (h.setBox id cs') :=
 ⟨fun w => ⟨fun i hi => by
  simp only [Heap.setBox]
  split
  ·rename_i e; subst e; exact absurd (w.box i hi) hx
  ·exact w.box i hi, w.live, w.loop⟩, Nat.le_refl _⟩
theorem wf_setLoop {h : Heap} {id : Nat} (hx : h.loop id ≠ none) (r : LoopRec) : WFle h (h.setLoop id r) :=
 ⟨fun w => ⟨w.box, w.live, fun i hi => by
  simp only [Heap.setLoop]
  split
  ·rename_i e; subst e; exact absurd (w.loop i hi) hx
  ·exact w.loop i hi⟩, Nat.le_refl _⟩

section
variable {orc pure : FuncId → List PV → Option PV} {call : PV → List PV → Heap → Option (PV × Heap)} {f g : Fr} {h h' : Heap} {p : PV}

theorem ev_congr {x : Opd} (he : ∀ t ∈ x.slot, f t = g t) : x.ev f = x.ev g := by
 cases x with
 | tmp t => exact he t (by simp [Opd.slot])
 | const c => rfl

theorem evs_congr {xs : List Opd} (he : ∀ t ∈ xs.flatMap Opd.slot, f t = g t) : xs.map (Opd.ev f) = xs.map (Opd.ev g) :=
 List.map_congr_left fun x hx => ev_congr fun t ht => he t (List.mem_flatMap.2 ⟨x, hx, ht⟩)

theorem mapO_congr {α β : Type} {k l : α → Option β} : ∀ {xs : List α}, (∀ x ∈ xs, k x = l x) → mapO k xs = mapO l xs
 | [], _ => rfl
 | x :: xs, he => by simp only [mapO]; rw [he x (by simp), mapO_congr (fun y hy => he y (by simp [hy]))]

theorem fill_congr : ∀ {ps : List (Nat × Nat × Opd)} {cs : List PV}, (∀ t ∈ ps.flatMap (fun p => p.2.2.slot), f t = g t) → fillP f cs ps = fillP g cs ps
 | [], cs, _ => rfl
 | (o, s, x) :: ps, cs, he => by
  simp only [List.flatMap_cons, List.mem_append] at he
  simp only [fillP]
  rw [ev_congr (x := x) (fun t ht => he t (.inl ht))]
  split
  ·exact fill_congr (fun t ht => he t (.inr ht))
  ·rfl

theorem bound_congr {d y : Nat} {o : Option Opd} (he : ∀ t ∈ Opd.slotO o, f t = g t) : boundP f d y o = boundP g d y o := by
 cases o with
 | none => rfl
 | some x => simp only [boundP]; rw [ev_congr (x := x) he]

theorem evalOp_congr {op : ROp} (he : ∀ t ∈ op.slots, f t = g t) : evalOp orc pure call op f h = evalOp orc pure call op g h := by
 cases op <;> simp only [ROp.slots, List.mem_append] at he <;> simp only [evalOp]
 case mov x => rw [ev_congr he]
 case pick a b c =>
  rw [ev_congr (x := a) (fun t ht => he t (.inl (.inl ht))), ev_congr (x := b) (fun t ht => he t (.inl (.inr ht))), ev_congr (x := c) (fun t ht => he t (.inr ht))]
 case box ty x => rw [ev_congr he]
 case mkif ty x => rw [ev_congr he]
 case build z ps => rw [fill_congr he]
 case bslice es n b z ps => rw [fill_congr he]
 case load n x => rw [ev_congr he]
 case store n x y => rw [ev_congr (x := x) (fun t ht => he t (.inl ht)), ev_congr (x := y) (fun t ht => he t (.inr ht))]
 case nilck x => rw [ev_congr he]
 case bin op e x y => rw [ev_congr (x := x) (fun t ht => he t (.inl ht)), ev_congr (x := y) (fun t ht => he t (.inr ht))]
 case un op x => rw [ev_congr he]
 case conv c x => rw [ev_congr he]
 case mkfunc k xs ys => rw [evs_congr (xs := xs) (fun t ht => he t (.inl ht)), evs_congr (xs := ys) (fun t ht => he t (.inr ht))]
 case mkslice es b z x y => rw [ev_congr (x := x) (fun t ht => he t (.inl ht)), ev_congr (x := y) (fun t ht => he t (.inr ht))]
 case sliceS x lo hi =>
  rw [ev_congr (x := x) (fun t ht => he t (.inl (.inl ht)))]
  have e1 : ∀ d y, boundP f d y lo = boundP g d y lo := fun d y => bound_congr (fun t ht => he t (.inl (.inr ht)))
  have e2 : ∀ d y, boundP f d y hi = boundP g d y hi := fun d y => bound_congr (fun t ht => he t (.inr ht))
  simp only [e1, e2]
 case slice z x lo hi mx =>
  rw [ev_congr (x := x) (fun t ht => he t (.inl (.inl (.inl ht))))]
  have e1 : ∀ d y, boundP f d y lo = boundP g d y lo := fun d y => bound_congr (fun t ht => he t (.inl (.inl (.inr ht))))
  have e2 : ∀ d y, boundP f d y hi = boundP g d y hi := fun d y => bound_congr (fun t ht => he t (.inl (.inr ht)))
  have e3 : ∀ d y, boundP f d y mx = boundP g d y mx := fun d y => bound_congr (fun t ht => he t (.inr ht))
  split
  ·split
   ·simp only [e1, e2]
   ·simp only [e3, e1]
    congr 1
    funext c
    cases hi with
    | none => rfl
    | some hi => simp only [e2]
   ·rfl
  ·rfl
 case faddr o x => rw [ev_congr he]
 case field o n x => rw [ev_congr he]
 case iaddr es x y => rw [ev_congr (x := x) (fun t ht => he t (.inl ht)), ev_congr (x := y) (fun t ht => he t (.inr ht))]
 case iaddrA l es x y => rw [ev_congr (x := x) (fun t ht => he t (.inl ht)), ev_congr (x := y) (fun t ht => he t (.inr ht))]
 case indexS x y => rw [ev_congr (x := x) (fun t ht => he t (.inl ht)), ev_congr (x := y) (fun t ht => he t (.inr ht))]
 case indexA l es n x y => rw [ev_congr (x := x) (fun t ht => he t (.inl ht)), ev_congr (x := y) (fun t ht => he t (.inr ht))]
 case extract i x => rw [ev_congr he]
 case len b x => rw [ev_congr he]
 case min x y => rw [ev_congr (x := x) (fun t ht => he t (.inl ht)), ev_congr (x := y) (fun t ht => he t (.inr ht))]
 case app es b u x y => rw [ev_congr (x := x) (fun t ht => he t (.inl ht)), ev_congr (x := y) (fun t ht => he t (.inr ht))]
 case call k xs => rw [ev_congr (x := k) (fun t ht => he t (.inl ht)), evs_congr (xs := xs) (fun t ht => he t (.inr ht))]
 case pcall k xs =>
  rw [mapO_congr (k := fun x => (Opd.ev f x).st2) (l := fun x => (Opd.ev g x).st2) (fun x hx => by rw [ev_congr (x := x) (fun t ht => he t (List.mem_flatMap.2 ⟨x, hx, ht⟩))])]
 case ocall k xs =>
  rw [mapO_congr (k := fun x => (Opd.ev f x).st2) (l := fun x => (Opd.ev g x).st2) (fun x hx => by rw [ev_congr (x := x) (fun t ht => he t (List.mem_flatMap.2 ⟨x, hx, ht⟩))])]

theorem faddr_pure {o : Nat} {q : PV} (he : faddrP o q h = some (p, h')) : h' = h ∧ ∀ h2, faddrP o q h2 = some (p, h2) := by
 unfold faddrP at he ⊢
 split at he <;> cases he <;> exact ⟨rfl, fun _ => rfl⟩

theorem map_pure {α : Type} {F : α → PV} {o : Option α} (he : o.map (fun v => (F v, h)) = some (p, h')) : h' = h ∧ ∀ h2 : Heap, o.map (fun v => (F v, h2)) = some (p, h2) := by
 cases o with
 | none => cases he
 | some v => cases he; exact ⟨rfl, fun _ => rfl⟩

theorem evalOp_pure {op : ROp} (hk : op.kind = .pure) (he : evalOp orc pure call op f h = some (p, h')) : h' = h ∧ ∀ h2, evalOp orc pure call op f h2 = some (p, h2) := by
 cases op <;> simp only [evalOp] at he ⊢ <;> (try (cases hk; done))
 case faddr o x => exact faddr_pure he
 case iaddrA l es x y =>
  split at he
  ·unfold iaddrAP at he ⊢
   split at he
   ·rename_i hc
    obtain ⟨e, e2⟩ := faddr_pure he
    exact ⟨e, fun h2 => by rw [if_pos hc]; exact e2 h2⟩
   ·cases he
  ·cases he
 case conv c x =>
  split at he
  ·cases he; exact ⟨rfl, fun _ => rfl⟩
  ·cases he; exact ⟨rfl, fun _ => rfl⟩
  ·simp [ROp.kind] at hk
  ·split at he
   ·rename_i hc
    simp only [Option.map_eq_some_iff] at he
    obtain ⟨v, hv, he⟩ := he
    cases he
    exact ⟨rfl, fun h2 => by rw [if_pos hc, hv]; rfl⟩
   ·cases he
  ·cases he
 case slice z x lo hi mx =>
  split at he
  ·rename_i hz
   simp only [hz, if_true]
   split at he
   ·cases hb : boundP f _ _ hi with
    | none => rw [hb] at he; cases he
    | some b =>
     rw [hb] at he
     simp only [Option.bind_some, Option.map_eq_some_iff] at he ⊢
     obtain ⟨v, hv, he⟩ := he
     cases he
     exact ⟨rfl, fun h2 => ⟨v, hv, rfl⟩⟩
   ·cases hb : boundP f _ _ (some _) with
    | none => rw [hb] at he; cases he
    | some b =>
     rw [hb] at he
     simp only [Option.bind_some] at he ⊢
     cases hi with
     | none => cases he
     | some hi =>
      simp only at he ⊢
      cases hb2 : boundP f 0 b (some hi) with
      | none => rw [hb2] at he; cases he
      | some b2 =>
       rw [hb2] at he
       simp only [Option.bind_some, Option.map_eq_some_iff] at he ⊢
       obtain ⟨v, hv, he⟩ := he
       cases he
       exact ⟨rfl, fun h2 => ⟨v, hv, rfl⟩⟩
   ·cases he
  ·cases he
 case sliceS x lo hi =>
  split at he
  ·cases hb : boundP f _ _ hi with
   | none => rw [hb] at he; cases he
   | some b =>
    rw [hb] at he
    simp only [Option.bind_some, Option.map_eq_some_iff] at he ⊢
    obtain ⟨v, hv, he⟩ := he
    cases he
    exact ⟨rfl, fun h2 => ⟨v, hv, rfl⟩⟩
  ·cases he
 case pcall k xs =>
  cases hm : mapO (fun x => (Opd.ev f x).st2) xs with
  | none => rw [hm] at he; cases he
  | some as =>
   rw [hm] at he
   simp only [Option.bind_some] at he ⊢
   exact map_pure he
 case ocall k xs =>
  cases hm : mapO (fun x => (Opd.ev f x).st2) xs with
  | none => rw [hm] at he; cases he
  | some as =>
   rw [hm] at he
   simp only [Option.bind_some] at he ⊢
   exact map_pure he
 case pick a b c =>
  split at he
  ·rename_i t ht
   cases he; exact ⟨rfl, fun _ => rfl⟩
  ·cases he
 case min =>
  split at he
  ·cases he; exact ⟨rfl, fun _ => rfl⟩
  ·cases he
 case bin => exact map_pure he
 case un => exact map_pure he
 case build => exact map_pure he
 case extract =>
  split at he
  ·exact map_pure he
  ·cases he
 case field =>
  split at he
  ·exact map_pure he
  ·cases he
 case iaddr =>
  split at he
  ·split at he
   ·rename_i hc
    obtain ⟨e, e2⟩ := map_pure he
    exact ⟨e, fun h2 => by rw [if_pos hc]; exact e2 h2⟩
   ·cases he
  ·cases he
 case indexS =>
  split at he
  ·split at he
   ·rename_i hc
    obtain ⟨e, e2⟩ := map_pure he
    exact ⟨e, fun h2 => by rw [if_pos hc]; exact e2 h2⟩
   ·cases he
  ·cases he
 case indexA =>
  split at he
  ·split at he
   ·rename_i hc
    obtain ⟨e, e2⟩ := map_pure he
    exact ⟨e, fun h2 => by rw [if_pos hc]; exact e2 h2⟩
   ·cases he
  ·cases he
 all_goals
  (repeat' split at he) <;> first
   | (cases he; done)
   | (cases he; exact ⟨rfl, fun _ => rfl⟩)
   | skip

theorem evalOp_reads {op : ROp} (hk : op.kind = .reads) : ∃ n x, op = .load n x := by
 cases op <;> first
  | (cases hk; done)
  | exact ⟨_, _, rfl⟩
  | (rename_i c x; cases c <;> cases hk)

theorem loadP_some {q : PV} {n : Option Nat} (he : loadP h q n = some (p, h')) : h' = h := by
 unfold loadP at he
 split at he
 ·cases hb : h.box _ with
  | none => rw [hb] at he; cases he
  | some cs =>
   rw [hb] at he
   simp only [Option.bind_some, Option.map_eq_some_iff] at he
   obtain ⟨v, hv, he⟩ := he
   cases he; rfl
 ·simp only [Option.map_eq_some_iff] at he
  obtain ⟨v, hv, he⟩ := he
  cases he; rfl
 ·cases he

theorem storeP_inv {q : PV} {n : Nat} {vs : List PV} (he : storeP h q n vs = some (p, h')) : ∃ id off cs, q = .ptr id off ∧ h.box id = some cs ∧ vs.length = n ∧ off + n ≤ cs.length ∧ h' = h.setBox id (setAt cs off vs) := by
 unfold storeP at he
 split at he
 ·rename_i id off
  cases hb : h.box id with
  | none => rw [hb] at he; cases he
  | some cs =>
   rw [hb] at he
   simp only [Option.bind_some] at he
   split at he
   ·rename_i hc
    cases he
    exact ⟨id, off, cs, rfl, hb, hc.1, hc.2.1, rfl⟩
   ·cases he
 ·cases he

theorem appP_heap {es b : Nat} {u8 : Bool} {x y : PV} (he : appP es b u8 x y h = some (p, h')) : h' = h ∨ h' = h.newArr ∨ ∃ id, h' = h.regrow id := by
 unfold appP at he
 split at he
 ·split at he
  ·split at he
   ·split at he
    ·cases he; exact .inl rfl
    ·cases he; exact .inr (.inl rfl)
   ·split at he
    ·cases he
    ·cases he; exact .inr (.inl rfl)
   ·split at he
    ·cases he; exact .inr (.inr ⟨_, rfl⟩)
    ·cases he
   ·cases he
  ·cases he
 ·cases he

inductive Turn (h : Heap) : Heap → Prop
 | box (ty : TypeId) (cs : List PV) : Turn h (h.newBox ty cs)
 | same : Turn h h
 | arr : Turn h h.newArr
 | grow (id : Nat) : Turn h (h.regrow id)

theorem effect_turn {op : ROp} (hk : op.kind = .effect) (he : evalOp orc pure call op f h = some (p, h')) :
  Turn h h' ∨ (∃ n x y, op = .store n x y) ∨ ∃ g as, op = .call g as := by
 cases op <;> simp only [evalOp] at he <;> (try (cases hk; done))
 case alloc ty z => cases he; exact .inl (.box _ _)
 case box ty x =>
  split at he
  ·cases he; exact .inl (.box _ _)
  ·cases he
 case bslice es n b z ps =>
  cases hf : fillP f z ps with
  | none => rw [hf] at he; cases he
  | some cs =>
   rw [hf] at he
   simp only [Option.bind_some] at he
   split at he
   ·cases he; exact .inl .arr
   ·cases he
 case store n x y => exact .inr (.inl ⟨_, _, _, rfl⟩)
 case conv c x =>
  split at he <;> first
   | (cases hk; done)
   | (cases he; exact .inl .arr)
   | (cases he; done)
 case mkslice =>
  split at he
  ·split at he
   ·cases he; exact .inl .arr
   ·cases he
  ·cases he
 case app =>
  rcases appP_heap he with rfl | rfl | ⟨id, rfl⟩
  ·exact .inl .same
  ·exact .inl .arr
  ·exact .inl (.grow id)
 case call => exact .inr (.inr ⟨_, _, rfl⟩)

theorem Turn.wf (t : Turn h h') : WFle h h' := by
 cases t with
 | box ty cs => exact wf_newBox h ty cs
 | same => exact .refl h
 | arr => exact wf_newArr h
 | grow id => exact wf_regrow h id

theorem Turn.box_same (t : Turn h h') {id : Nat} (hi : id < h.n) : h'.box id = h.box id := by
 cases t with
 | box ty cs => simp only [Heap.newBox]; rw [if_neg (by omega)]
 | _ => rfl

theorem evalOp_wf {op : ROp} (hcall : ∀ fv args h r h', call fv args h = some (r, h') → WFle h h') (he : evalOp orc pure call op f h = some (p, h')) : WFle h h' := by
 cases hk : op.kind with
 | pure => rw [(evalOp_pure hk he).1]; exact .refl h
 | reads =>
  obtain ⟨n, x, rfl⟩ := evalOp_reads hk
  simp only [evalOp] at he
  rw [loadP_some he]; exact .refl h
 | effect =>
  rcases effect_turn hk he with t | ⟨n, x, y, rfl⟩ | ⟨g, as, rfl⟩
  ·exact t.wf
  ·simp only [evalOp] at he
   obtain ⟨id, off, cs, _, hb, _, _, rfl⟩ := storeP_inv he
   exact wf_setBox (by rw [hb]; simp) _
  ·exact hcall _ _ _ _ _ he

theorem readAt_set {cs vs : List PV} {o off : Nat} {n : Option Nat} (hl : o + vs.length ≤ cs.length) (ha : off + n.getD 1 ≤ o ∨ o + vs.length ≤ off) : readAt (setAt cs o vs) off n = readAt cs off n := by
 cases n with
 | none =>
  simp only [readAt, Option.getD_none] at ha ⊢
  rw [setAt_get _ _ _ _ hl, if_neg (by omega)]
 | some n =>
  simp only [readAt, Option.getD_some, setAt_length] at ha ⊢
  split
  ·congr 2
   apply List.ext_getElem?
   intro i
   simp only [List.getElem?_take, List.getElem?_drop]
   split
   ·rw [setAt_get _ _ _ _ hl, if_neg (by omega)]
   ·rfl
  ·rfl

theorem load_beside {op : ROp} (hk : op.kind = .effect) (he : evalOp orc pure call op f h = some (p, h')) (hnc : ∀ g as, op ≠ .call g as) {q : PV} {n : Option Nat}
  (hid : ∀ id off, q = .ptr id off → id < h.n) (hap : ∀ m x y, op = .store m x y → apart (x.ev f) m q (n.getD 1)) (v : PV) : loadP h' q n = some (v, h') ↔ loadP h q n = some (v, h) := by
 have key : ∀ (box : ∀ id off, q = .ptr id off → (h'.box id).bind (fun cs => readAt cs off n) = (h.box id).bind (fun cs => readAt cs off n)), loadP h' q n = some (v, h') ↔ loadP h q n = some (v, h) := by
  intro hb
  unfold loadP
  split
  ·rename_i id off
   have e := hb id off rfl
   cases h1 : h'.box id with
   | none =>
    rw [h1] at e
    cases h2 : h.box id with
    | none => simp
    | some cs =>
     rw [h2] at e
     simp only [Option.bind_none, Option.bind_some] at e
     simp [← e]
   | some cs' =>
    rw [h1] at e
    cases h2 : h.box id with
    | none =>
     rw [h2] at e
     simp only [Option.bind_none, Option.bind_some] at e
     simp [e]
    | some cs =>
     rw [h2] at e
     simp only [Option.bind_some] at e
     simp only [Option.bind_some, e, Option.map_eq_some_iff, Prod.mk.injEq, and_true]
  ·simp only [Option.map_eq_some_iff, Prod.mk.injEq, and_true]
  ·simp
 rcases effect_turn hk he with t | ⟨m, x, y, rfl⟩ | ⟨g, as, rfl⟩
 ·exact key (fun id off e => by rw [t.box_same (hid id off e)])
 ·simp only [evalOp] at he
  obtain ⟨id2, off2, cs2, hx, hb, hl, hle, rfl⟩ := storeP_inv he
  refine key (fun id off e => ?_)
  have ha := hap m x y rfl
  rw [hx, e] at ha
  simp only [apart] at ha
  by_cases hne : id = id2
  ·subst hne
   simp only [Heap.setBox, if_true, hb, Option.bind_some]
   exact readAt_set (by omega) (by rcases ha with h | h | h <;> omega)
  ·simp only [Heap.setBox, if_neg hne]
 ·exact absurd rfl (hnc g as)
end
end Go.Proofs.YtmngkcpobmhnoaaGreatDoor.Sim
/- Regions that draw their order: the theorem. -/
namespace Go.Proofs.YtmngkcpobmhnoaaGreatDoor.Sim

section masks

theorem maskOf_bit (acc : List Nat) (o : Oper) (j : Nat) (h : (maskOf acc o).testBit j = true) :
  ∃ e ∈ o.after.toList, Region.binds .any e = true ∧ (e.on = j ∨ (acc.getD e.on 0).testBit j = true) := by
 unfold maskOf at h
 have key : ∀ (l : List Edge) (s : Nat), (l.foldl (fun s e => if Region.binds .any e then s ||| 2 ^ e.on ||| acc.getD e.on 0 else s) s).testBit j = true →
   s.testBit j = true ∨ ∃ e ∈ l, Region.binds .any e = true ∧ (e.on = j ∨ (acc.getD e.on 0).testBit j = true) := by
  intro l
  induction l with
  | nil => intro s h; exact .inl h
  | cons e l ih =>
   intro s h
   simp only [List.foldl_cons] at h
   rcases ih _ h with h1 | ⟨e', h1, h2⟩
   ·split at h1
    ·rename_i hb
     simp only [Nat.testBit_or, Bool.or_eq_true, Nat.testBit_two_pow, decide_eq_true_eq] at h1
     rcases h1 with (h1 | h1) | h1
     ·exact .inl h1
     ·exact .inr ⟨e, by simp, hb, .inl h1⟩
     ·exact .inr ⟨e, by simp, hb, .inr h1⟩
    ·exact .inl h1
   ·exact .inr ⟨e', by simp [h1], h2⟩
 rcases key _ 0 h with h1 | h1
 ·simp at h1
 ·exact h1

theorem masks_take : ∀ (os : List Oper) (acc : List Nat), (masks os acc).take acc.length = acc ∧ (masks os acc).length = acc.length + os.length
 | [], acc => by simp [masks]
 | o :: os, acc => by
  obtain ⟨h1, h2⟩ := masks_take os (acc ++ [maskOf acc o])
  simp only [masks]
  refine ⟨?_, by rw [h2]; simp; omega⟩
  have := congrArg (List.take acc.length) h1
  rw [List.take_take] at this
  simp only [List.length_append, List.length_cons, List.length_nil, Nat.zero_add] at this
  rw [Nat.min_eq_left (Nat.le_succ _)] at this
  simpa using this

theorem masks_get : ∀ (os : List Oper) (acc : List Nat) (i : Nat) (o : Oper), os[i]? = some o → (masks os acc)[acc.length + i]? = some (maskOf ((masks os acc).take (acc.length + i)) o)
 | [], acc, i, o, h => by simp at h
 | o' :: os, acc, i, o, h => by
  simp only [masks]
  obtain ⟨h1, h2⟩ := masks_take os (acc ++ [maskOf acc o'])
  cases i with
  | zero =>
   simp at h; subst h
   have e : ∀ k, k < acc.length + 1 → (masks os (acc ++ [maskOf acc o']))[k]? = (acc ++ [maskOf acc o'])[k]? := fun k hk => by
    conv => rhs; rw [← h1]
    rw [List.getElem?_take]; simp [hk]
   rw [Nat.add_zero, e _ (by omega)]
   have e2 : (masks os (acc ++ [maskOf acc o'])).take acc.length = acc := by
    have := congrArg (List.take acc.length) h1
    rw [List.take_take] at this
    simp only [List.length_append, List.length_cons, List.length_nil, Nat.zero_add] at this
    rw [Nat.min_eq_left (Nat.le_succ _)] at this
    simpa using this
   rw [e2]; simp
  | succ i =>
   have := masks_get os (acc ++ [maskOf acc o']) i o (by simpa using h)
   simp only [List.length_append, List.length_cons, List.length_nil, Nat.zero_add] at this
   rw [show acc.length + 1 + i = acc.length + (i + 1) by omega] at this
   exact this

theorem bef_edge {os : List Oper} {i j : Nat} {o : Oper} (ho : os[i]? = some o) (h : bef (masks os []) j i = true) :
  ∃ e ∈ o.after.toList, Region.binds .any e = true ∧ (e.on = j ∨ bef (masks os []) j e.on = true) := by
 unfold bef at h
 have hg := masks_get os [] i o ho
 simp only [List.length_nil, Nat.zero_add] at hg
 rw [List.getD, hg] at h
 simp only [Option.getD_some] at h
 obtain ⟨e, h1, h2, h3⟩ := maskOf_bit _ _ _ h
 refine ⟨e, h1, h2, h3.imp id (fun h3 => ?_)⟩
 unfold bef
 rw [List.getD, List.getElem?_take] at h3
 rw [List.getD]
 split at h3
 ·exact h3
 ·simp at h3

theorem bef_nil {os : List Oper} {i j : Nat} (ho : os[i]? = none) : bef (masks os []) j i = false := by
 unfold bef
 have h2 := (masks_take os []).2
 simp only [List.length_nil, Nat.zero_add] at h2
 rw [List.getD, List.getElem?_eq_none (by rw [h2]; exact List.getElem?_eq_none_iff.1 ho)]
 simp
end masks

section
variable {P : Program} {C : CEnv} {nt lo : Nat} {ro : Option Nat} {orc pure : FuncId → List PV → Option PV} {call : PV → List PV → Heap → Option (PV × Heap)}

theorem trace_ex : ∀ (rs : List ROper) (f : Fr) (h : Heap) (f' : Fr) (h' : Heap), evalOps orc pure call rs f h = some (f', h') →
  ∃ (fs : Nat → Fr) (hs : Nat → Heap) (ps : Nat → PV), fs 0 = f ∧ hs 0 = h ∧ fs rs.length = f' ∧ hs rs.length = h' ∧
   ∀ (k : Nat) (x : ROper), rs[k]? = some x → (if wantedP (fs k) x.guard then evalOp orc pure call x.op (fs k) (hs k) else some (undefP, hs k)) = some (ps k, hs (k + 1)) ∧ fs (k + 1) = putD (fs k) x.dst (ps k)
 | [], f, h, f', h', he => by
  cases he
  exact ⟨fun _ => f, fun _ => h, fun _ => undefP, rfl, rfl, rfl, rfl, fun k x hx => by simp at hx⟩
 | x :: rs, f, h, f', h', he => by
  obtain ⟨p, h1, e1, e2⟩ := evalOps_cons he
  obtain ⟨fs, hs, ps, a1, a2, a3, a4, a5⟩ := trace_ex rs _ _ _ _ e2
  refine ⟨fun k => match k with | 0 => f | k + 1 => fs k, fun k => match k with | 0 => h | k + 1 => hs k, fun k => match k with | 0 => p | k + 1 => ps k, rfl, rfl, a3, a4, fun k y hy => ?_⟩
  cases k with
  | zero =>
   simp at hy; subst hy
   simp only [a1, a2]
   exact ⟨e1, trivial⟩
  | succ k => exact a5 k y (by simpa using hy)

structure DrawOK (ops : Array Oper) (rs : List ROper) (m : List Nat) : Prop where
 uniq : ∀ (i j : Nat) (x y : ROper) (t : Nat), rs[i]? = some x → rs[j]? = some y → x.dst = some t → y.dst = some t → i = j
 back : ∀ (i : Nat) (o : Oper) (e : Edge), ops[i]? = some o → e ∈ o.after.toList → Region.binds .any e = true → e.on < i
 slots : ∀ (i : Nat) (x : ROper) (t j : Nat) (y : ROper), rs[i]? = some x → t ∈ x.slots → rs[j]? = some y → y.dst = some t → bef m j i = true ∨ bef m i j = true
 chain : ∀ (i : Nat) (x : ROper) (j : Nat) (y : ROper), rs[i]? = some x → rs[j]? = some y → i < j → x.op.kind = .effect → y.op.kind = .effect → bef m i j = true
 ptrs : ∀ (i : Nat) (x : ROper) (t j : Nat) (y : ROper), rs[i]? = some x → t ∈ ptrOpds x.op → rs[j]? = some y → y.dst = some t → bef m j i = true

theorem mem_zipIdx {α : Type} {l : List α} {i : Nat} {x : α} (h : l[i]? = some x) : (x, i) ∈ l.zipIdx := by
 rw [List.mem_zipIdx_iff_getElem?]; exact h

theorem drawOk_spec {ops : Array Oper} {rs : List ROper} {m : List Nat} (h : drawOk ops rs m = true) : DrawOK ops rs m := by
 simp only [drawOk, Bool.and_eq_true, List.all_eq_true] at h
 obtain ⟨⟨⟨⟨h1, h2⟩, h3⟩, h4⟩, h5⟩ := h
 refine ⟨fun i j x y t hi hj hx hy => ?_, fun i o e hi he hb => ?_, fun i x t j y hi ht hj hy => ?_, fun i x j y hi hj hlt hx hy => ?_, fun i x t j y hi ht hj hy => ?_⟩
 ·have := h1 _ (mem_zipIdx hi) _ (mem_zipIdx hj)
  simpa [hx, hy] using this
 ·have := h2 (o, i) (mem_zipIdx (by simpa using hi)) e he
  simpa [hb] using this
 ·have := h3 _ (mem_zipIdx hi) t ht _ (mem_zipIdx hj)
  simpa [hy] using this
 ·have := h4 _ (mem_zipIdx hi) _ (mem_zipIdx hj)
  simpa [hx, hy, hlt] using this
 ·have := h5 _ (mem_zipIdx hi) t ht _ (mem_zipIdx hj)
  simpa [hy] using this

theorem chkAll_mem : ∀ {l : List (ROp × ROp)} {cs : List Chk}, chkAll l = some cs → ∀ x y, (x, y) ∈ l → ∃ o, chk1 x y = some o ∧ ∀ c, o = some c → c ∈ cs
 | [], cs, h, x, y, hm => by simp at hm
 | (x0, y0) :: l, cs, h, x, y, hm => by
  simp only [chkAll] at h
  split at h
  ·rename_i c cs' h1 h2
   cases h
   rcases List.mem_cons.1 hm with e | hm
   ·cases e; exact ⟨some c, h1, fun c' e => by cases e; simp⟩
   ·obtain ⟨o, a, b⟩ := chkAll_mem h2 x y hm
    exact ⟨o, a, fun c' e => by simp [b c' e]⟩
  ·rename_i cs' h1 h2
   cases h
   rcases List.mem_cons.1 hm with e | hm
   ·cases e; exact ⟨none, h1, fun c' e => by cases e⟩
   ·exact chkAll_mem h2 x y hm
  ·cases h

theorem chkOk_mem {f : Fr} : ∀ {l : List Chk}, chkOk f l → ∀ c ∈ l, apart (c.a.ev f) c.n (c.b.ev f) c.m
 | [], _, c, hc => by simp at hc
 | c0 :: l, h, c, hc => by
  rcases List.mem_cons.1 hc with e | hc
  ·subst e; exact h.1
  ·exact chkOk_mem h.2 c hc

theorem chk_pair {m : List Nat} {rs : List ROper} {chk : List Chk} {f' : Fr} (hc : chkOf m rs = some chk) (ho : chkOk f' chk) {i j : Nat} {x y : ROper} (hi : rs[i]? = some x) (hj : rs[j]? = some y)
  (hx : x.op.kind = .effect) {n : Option Nat} {b : Opd} (hy : y.op = .load n b) (h1 : bef m i j = false) (h2 : bef m j i = false) :
  (∀ g as, x.op ≠ .call g as) ∧ ∀ k a v, x.op = .store k a v → apart (a.ev f') k (b.ev f') (n.getD 1) := by
 have hm : (x.op, y.op) ∈ chkPairs m rs := by
  unfold chkPairs
  refine List.mem_flatMap.2 ⟨(x, i), mem_zipIdx hi, List.mem_filterMap.2 ⟨(y, j), mem_zipIdx hj, ?_⟩⟩
  have hk : y.op.kind = .reads := by rw [hy]; rfl
  simp [hx, hk, h1, h2]
 obtain ⟨o, g1, g2⟩ := chkAll_mem hc _ _ hm
 refine ⟨fun g as e => ?_, fun k a v e => ?_⟩
 ·rw [e] at g1; cases g1
 ·rw [e, hy] at g1
  simp only [chk1, Option.some.injEq] at g1
  exact chkOk_mem ho _ (g2 _ g1.symm)

variable {ops : Array Oper} {rs : List ROper}

theorem load_opd {o : Op} {n : Option Nat} {b : Opd} (hc : cOp P C o = some (.load n b)) : ∃ t a, o = .load t a ∧ cOpd C a = some b := by
 cases o <;> simp only [cOp] at hc
 case load t a =>
  split at hc
  ·rename_i n' b' h1 h2; cases hc; exact ⟨t, a, rfl, h2⟩
  ·cases hc
 case makeFunc fn x y => cases fn <;> simp only at hc <;> first | (cases hc; done) | (split at hc <;> cases hc)
 case call c =>
  exfalso
  unfold cCall at hc
  repeat' split at hc
  all_goals first
   | (cases hc; done)
   | (simp only [Option.map_eq_some_iff] at hc; obtain ⟨_, _, hc⟩ := hc; first | (cases hc; done) | (split at hc <;> first | (cases hc; done) | (split at hc <;> cases hc)))
 all_goals
  exfalso
  (repeat' split at hc) <;> first
   | (cases hc; done)
   | (simp only [Option.map_eq_some_iff, Option.bind_eq_some_iff] at hc; obtain ⟨_, _, hc⟩ := hc; first | (cases hc; done) | (obtain ⟨_, _, hc⟩ := hc; cases hc))

structure Tr (rs : List ROper) (orc pure : FuncId → List PV → Option PV) (call : PV → List PV → Heap → Option (PV × Heap)) (fs : Nat → Fr) (hs : Nat → Heap) (ps : Nat → PV) : Prop where
 step : ∀ (k : Nat) (x : ROper), rs[k]? = some x → (if wantedP (fs k) x.guard then evalOp orc pure call x.op (fs k) (hs k) else some (undefP, hs k)) = some (ps k, hs (k + 1))
 put : ∀ (k : Nat) (x : ROper), rs[k]? = some x → fs (k + 1) = putD (fs k) x.dst (ps k)

variable {fs : Nat → Fr} {hs : Nat → Heap} {ps : Nat → PV}

theorem putD_ne {f : Fr} {d : Option Nat} {p : PV} {t : Nat} (h : d ≠ some t) : putD f d p t = f t := by
 cases d with
 | none => rfl
 | some d => simp only [putD, Fr.put]; rw [if_neg (fun e => h (by rw [e]))]
theorem putD_eq {f : Fr} {p : PV} {t : Nat} : putD f (some t) p t = p := by simp [putD, Fr.put]

theorem Tr.keep (tr : Tr rs orc pure call fs hs ps) {t i : Nat} : ∀ (d : Nat), i + d ≤ rs.length → (∀ (j : Nat) (x : ROper), i ≤ j → j < i + d → rs[j]? = some x → x.dst ≠ some t) → fs (i + d) t = fs i t
 | 0, _, _ => rfl
 | d + 1, hl, hn => by
  have hlt : i + d < rs.length := by omega
  rw [show i + (d + 1) = i + d + 1 by omega, tr.put (i + d) rs[i + d] (by simp [hlt]), putD_ne (hn (i + d) rs[i + d] (by omega) (by omega) (by simp [hlt])), tr.keep d (by omega) (fun j x h1 h2 => hn j x h1 (by omega))]

theorem Tr.wrote (tr : Tr rs orc pure call fs hs ps) (uq : ∀ (i j : Nat) (x y : ROper) (t : Nat), rs[i]? = some x → rs[j]? = some y → x.dst = some t → y.dst = some t → i = j) {t i k : Nat} {x : ROper} (hi : rs[i]? = some x) (hx : x.dst = some t) (hk : i < k) (hl : k ≤ rs.length) : fs k t = ps i := by
 have e := tr.keep (t := t) (i := i + 1) (k - (i + 1)) (by omega) (fun j y h1 h2 hy hd => by have := uq i j x y t hi hy hx hd; omega)
 rw [show i + 1 + (k - (i + 1)) = k by omega] at e
 rw [e, tr.put i x hi, hx, putD_eq]

theorem Tr.noEff (tr : Tr rs orc pure call fs hs ps) {k : Nat} {x : ROper} (hk : rs[k]? = some x) (hx : x.op.kind ≠ .effect) : hs (k + 1) = hs k := by
 have e := tr.step k x hk
 split at e
 ·cases hq : x.op.kind with
  | pure => exact (evalOp_pure hq e).1
  | reads =>
   obtain ⟨n, b, hb⟩ := evalOp_reads hq
   rw [hb] at e
   simp only [evalOp] at e
   exact loadP_some e
  | effect => exact absurd hq hx
 ·simp only [Option.some.injEq, Prod.mk.injEq] at e; exact e.2.symm

theorem Tr.noEffs (tr : Tr rs orc pure call fs hs ps) {i : Nat} : ∀ (d : Nat), i + d ≤ rs.length → (∀ (j : Nat) (x : ROper), i ≤ j → j < i + d → rs[j]? = some x → x.op.kind ≠ .effect) → hs (i + d) = hs i
 | 0, _, _ => rfl
 | d + 1, hl, hn => by
  have hlt : i + d < rs.length := by omega
  rw [show i + (d + 1) = i + d + 1 by omega, tr.noEff (k := i + d) (x := rs[i + d]) (by simp [hlt]) (hn (i + d) rs[i + d] (by omega) (by omega) (by simp [hlt])), tr.noEffs d (by omega) (fun j x h1 h2 => hn j x h1 (by omega))]

theorem Tr.wf (tr : Tr rs orc pure call fs hs ps) (hcall : ∀ fv args h r h', call fv args h = some (r, h') → WFle h h') {i : Nat} : ∀ (d : Nat), i + d ≤ rs.length → WFle (hs i) (hs (i + d))
 | 0, _ => .refl _
 | d + 1, hl => by
  have hlt : i + d < rs.length := by omega
  have e := tr.step (i + d) rs[i + d] (by simp [hlt])
  refine (tr.wf hcall d (by omega)).trans ?_
  rw [show i + (d + 1) = i + d + 1 by omega]
  split at e
  ·exact evalOp_wf hcall e
  ·simp only [Option.some.injEq, Prod.mk.injEq] at e; rw [← e.2]; exact .refl _

theorem Tr.load (tr : Tr rs orc pure call fs hs ps) {q : PV} {n : Option Nat} {v : PV} {i : Nat} : ∀ (d : Nat), i + d ≤ rs.length →
  (∀ (k : Nat) (x : ROper), i ≤ k → k < i + d → rs[k]? = some x → x.op.kind = .effect → (∀ g as, x.op ≠ .call g as) ∧ (∀ id off, q = .ptr id off → id < (hs k).n) ∧ (∀ m a b, x.op = .store m a b → apart (a.ev (fs k)) m q (n.getD 1))) →
  (loadP (hs (i + d)) q n = some (v, hs (i + d)) ↔ loadP (hs i) q n = some (v, hs i))
 | 0, _, _ => Iff.rfl
 | d + 1, hl, hn => by
  have hlt : i + d < rs.length := by omega
  have hx : rs[i + d]? = some rs[i + d] := by simp [hlt]
  refine Iff.trans ?_ (tr.load d (by omega) (fun k x h1 h2 => hn k x h1 (by omega)))
  rw [show i + (d + 1) = i + d + 1 by omega]
  by_cases hk : rs[i + d].op.kind = .effect
  ·obtain ⟨c1, c2, c3⟩ := hn (i + d) _ (by omega) (by omega) hx hk
   have e := tr.step (i + d) _ hx
   split at e
   ·exact load_beside hk e c1 c2 c3 v
   ·simp only [Option.some.injEq, Prod.mk.injEq] at e; rw [← e.2]
  ·rw [tr.noEff hx hk]

structure Inv (ops : Array Oper) (rs : List ROper) (fs : Nat → Fr) (ps : Nat → PV) (listed : Array Bool) (fS : Fr) (m : Nat) : Prop where
 size : listed.size = ops.size
 closed : ∀ (j : Nat) (o : Oper) (e : Edge), listed.getD j false = true → ops[j]? = some o → e ∈ o.after.toList → Region.binds .any e = true → listed.getD e.on false = true
 wrote : ∀ (j : Nat) (x : ROper) (t : Nat), listed.getD j false = true → rs[j]? = some x → x.dst = some t → fS t = ps j
 kept : ∀ t, (∀ (j : Nat) (x : ROper), listed.getD j false = true → rs[j]? = some x → x.dst ≠ some t) → fS t = fs 0 t
 hm : m ≤ rs.length
 eff : ∀ (k : Nat) (x : ROper), rs[k]? = some x → x.op.kind = .effect → (k < m ↔ listed.getD k false = true)

theorem mem_ready {listed : Array Bool} {i : Nat} : i ∈ Region.ready .any ops listed ↔ i < ops.size ∧ listed.getD i true = false ∧ ∀ o, ops[i]? = some o → ∀ e ∈ o.after.toList, Region.binds .any e = true → listed.getD e.on false = true := by
 unfold Region.ready
 simp only [List.mem_filter, List.mem_range, Bool.and_eq_true, Bool.not_eq_true']
 constructor
 ·rintro ⟨h1, h2, h3⟩
  refine ⟨h1, h2, fun o ho e he hb => ?_⟩
  rw [ho] at h3
  simp only [Option.map_some, Option.getD_some, Array.all_eq_true_iff_forall_mem] at h3
  have := h3 e (by simpa using he)
  simpa [hb] using this
 ·rintro ⟨h1, h2, h3⟩
  refine ⟨h1, h2, ?_⟩
  have ho : ops[i]? = some ops[i] := by simp [h1]
  rw [ho]
  simp only [Option.map_some, Option.getD_some, Array.all_eq_true_iff_forall_mem]
  intro e he
  have := h3 _ ho e (by simpa using he)
  cases hb : Region.binds .any e with
  | false => rfl
  | true => rw [this hb]; rfl

theorem getD_bool {l : Array Bool} {i : Nat} (hi : i < l.size) : l.getD i true = l.getD i false := by simp [Array.getD, hi]

theorem bef_listed {listed : Array Bool} (dk : DrawOK ops rs (masks ops.toList [])) (hcl : ∀ (j : Nat) (o : Oper) (e : Edge), listed.getD j false = true → ops[j]? = some o → e ∈ o.after.toList → Region.binds .any e = true → listed.getD e.on false = true) :
  ∀ (i j : Nat), (∀ o, ops[i]? = some o → ∀ e ∈ o.after.toList, Region.binds .any e = true → listed.getD e.on false = true) → bef (masks ops.toList []) j i = true → listed.getD j false = true ∧ j < i := by
 intro i
 induction i using Nat.strongRecOn with
 | _ i ih =>
  intro j hi hb
  cases ho : ops[i]? with
  | none => rw [bef_nil (by simpa using ho)] at hb; cases hb
  | some o =>
   obtain ⟨e, h1, h2, h3⟩ := bef_edge (by simpa using ho) hb
   have hl := hi o ho e h1 h2
   have hlt := dk.back i o e ho h1 h2
   rcases h3 with rfl | h3
   ·exact ⟨hl, hlt⟩
   ·obtain ⟨a, b⟩ := ih e.on hlt j (fun o' ho' e' he' hb' => hcl e.on o' e' hl ho' he' hb') h3
    exact ⟨a, by omega⟩

theorem bef_edge_lt (dk : DrawOK ops rs (masks ops.toList [])) {i j : Nat} (h : bef (masks ops.toList []) j i = true) : j < i := by
 induction i using Nat.strongRecOn with
 | _ i ih =>
  cases ho : ops[i]? with
  | none => rw [bef_nil (by simpa using ho)] at h; cases h
  | some o =>
   obtain ⟨e, g1, g2, g3⟩ := bef_edge (by simpa using ho) h
   have hlt2 := dk.back i o e ho g1 g2
   rcases g3 with rfl | g3
   ·exact hlt2
   ·have := ih e.on hlt2 g3; omega

theorem guard_slot {x : ROper} {t : Nat} {b : Bool} (h : x.guard = some (t, b)) : t ∈ x.slots := by
 unfold ROper.slots
 rw [h]; simp

theorem wantedP_congr {f g : Fr} {x : ROper} (he : ∀ t ∈ x.slots, f t = g t) : wantedP f x.guard = wantedP g x.guard := by
 unfold wantedP
 cases hg : x.guard with
 | none => rfl
 | some tb =>
  obtain ⟨t, b⟩ := tb
  simp only
  rw [he t (guard_slot hg)]

theorem countP_set (l : List Bool) (i : Nat) (hi : l[i]? = some false) : ((l.set i true).countP (fun b => !b)) + 1 = l.countP (fun b => !b) := by
 induction l generalizing i with
 | nil => simp at hi
 | cons b l ih =>
  cases i with
  | zero => simp at hi; subst hi; simp
  | succ i =>
   simp only [List.set_cons_succ, List.countP_cons]
   have := ih i (by simpa using hi)
   omega

theorem any_wp (tr : Tr rs orc pure call fs hs ps) (hrs : mapO (cOper P C nt ops) ops.toList = some rs) (dk : DrawOK ops rs (masks ops.toList [])) {chk : List Chk} (hck : chkOf (masks ops.toList []) rs = some chk)
  (hok : chkOk (fs rs.length) chk) (hcall : CallSim P C call) (hwf : ∀ fv args h r h', call fv args h = some (r, h') → WFle h h') (hpure : PureSim P C pure) (horc : PureSim P C orc) (hw0 : WF (hs 0)) {Q : Exit → Act → World → Prop} :
  ∀ (fuel : Nat) (listed : Array Bool) (fS : Fr) (m : Nat) (K : KW) (a : Act) (w : World), Inv ops rs fs ps listed fS m → listed.toList.countP (fun b => !b) ≤ fuel → Rel P C ro nt lo K (hs m) fS a w →
   (∀ K' a' w', Step K w K' w' → Rel P C ro nt lo K' (hs rs.length) (fs rs.length) a' w' → Q .normal a' w') → wpAnyIn (Fw ro) 0 P .any ops Q fuel listed a w := by
 have hl : rs.length = ops.size := by simpa using mapO_length hrs
 have hwfk : ∀ k, k ≤ rs.length → WF (hs k) := fun k hk => by
  have := (tr.wf (i := 0) hwf k (by omega)).wf hw0
  simpa using this
 have hmono : ∀ i k, i ≤ k → k ≤ rs.length → (hs i).n ≤ (hs k).n := fun i k h1 h2 => by
  have := (tr.wf (i := i) hwf (k - i) (by omega)).n
  rwa [show i + (k - i) = k by omega] at this
 -- at the end
 have done : ∀ (listed : Array Bool) (fS : Fr) (m : Nat) (K : KW) (a : Act) (w : World), Inv ops rs fs ps listed fS m → Region.ready .any ops listed = [] → Rel P C ro nt lo K (hs m) fS a w →
   (∀ K' a' w', Step K w K' w' → Rel P C ro nt lo K' (hs rs.length) (fs rs.length) a' w' → Q .normal a' w') → Q .normal a w := by
  intro listed fS m K a w inv hrd r hq
  have hall : ∀ i, i < ops.size → listed.getD i false = true := by
   intro i
   induction i using Nat.strongRecOn with
   | _ i ih =>
    intro hi
    cases hb : listed.getD i false with
    | true => rfl
    | false =>
     exfalso
     have : i ∈ Region.ready .any ops listed := mem_ready.2 ⟨hi, by rw [getD_bool (by rw [inv.size]; exact hi), hb], fun o ho e he hbd => ih e.on (dk.back i o e ho he hbd) (by have := dk.back i o e ho he hbd; omega)⟩
     rw [hrd] at this
     simp at this
  have hf : fS = fs rs.length := by
   funext t
   by_cases hx : ∃ (j : Nat) (x : ROper), rs[j]? = some x ∧ x.dst = some t
   ·obtain ⟨j, x, h1, h2⟩ := hx
    have hj : j < rs.length := (List.getElem?_eq_some_iff.1 h1).1
    rw [inv.wrote j x t (hall j (by omega)) h1 h2, tr.wrote dk.uniq h1 h2 hj (Nat.le_refl _)]
   ·have hx' : ∀ (j : Nat) (x : ROper), rs[j]? = some x → x.dst ≠ some t := fun j x h1 h2 => hx ⟨j, x, h1, h2⟩
    rw [inv.kept t (fun j x _ h1 => hx' j x h1)]
    have := tr.keep (t := t) (i := 0) rs.length (by omega) (fun j x _ _ h1 => hx' j x h1)
    rw [Nat.zero_add] at this
    exact this.symm
  have hh : hs m = hs rs.length := by
   have := tr.noEffs (i := m) (rs.length - m) (by have := inv.hm; omega) (fun j x h1 h2 hx hk => by
    have := (inv.eff j x hx hk).2 (hall j (by have := inv.hm; omega))
    omega)
   rw [show m + (rs.length - m) = rs.length by have := inv.hm; omega] at this
   exact this.symm
  rw [hf, hh] at r
  exact hq K a w (.refl K w) r
 intro fuel
 induction fuel with
 | zero =>
  intro listed fS m K a w inv hfu r hq
  have hrd : Region.ready .any ops listed = [] := by
   apply List.eq_nil_iff_forall_not_mem.2
   intro i hi
   obtain ⟨h1, h2, _⟩ := mem_ready.1 hi
   have h3 : listed.toList.countP (fun b => !b) = 0 := by omega
   rw [List.countP_eq_zero] at h3
   have hlt : i < listed.size := by rw [inv.size]; exact h1
   have h4 : listed[i] = false := by simpa [Array.getD, hlt] using h2
   have := h3 (listed[i]) (by simp)
   simp [h4] at this
  exact ⟨hrd, done listed fS m K a w inv hrd r hq⟩
 | succ fuel ih =>
  intro listed fS m K a w inv hfu r hq
  refine ⟨fun hrd => done listed fS m K a w inv hrd r hq, fun i hi => ?_⟩
  obtain ⟨hi1, hi2, hi3⟩ := mem_ready.1 hi
  have hil : i < rs.length := by omega
  have hlt : i < listed.size := by rw [inv.size]; exact hi1
  have hif : listed.getD i false = false := by rw [← getD_bool hlt]; exact hi2
  obtain ⟨x, hx, hcx⟩ := mapO_get hrs i ops[i] (by simp [hi1])
  have hbef : ∀ j, bef (masks ops.toList []) j i = true → listed.getD j false = true ∧ j < i := fun j hj => bef_listed dk inv.closed i j hi3 hj
  have haft : ∀ j, bef (masks ops.toList []) i j = true → listed.getD j false = false ∧ i < j := fun j hj => by
   cases hb : listed.getD j false with
   | false =>
    refine ⟨rfl, ?_⟩
    -- j's edges lead down to i
    have key : ∀ j, bef (masks ops.toList []) i j = true → i < j := by
     intro j
     induction j using Nat.strongRecOn with
     | _ j ihj =>
      intro hj
      cases ho : ops[j]? with
      | none => rw [bef_nil (by simpa using ho)] at hj; cases hj
      | some o =>
       obtain ⟨e, g1, g2, g3⟩ := bef_edge (by simpa using ho) hj
       have hlt2 := dk.back j o e ho g1 g2
       rcases g3 with rfl | g3
       ·exact hlt2
       ·have := ihj e.on hlt2 g3; omega
    exact key j hj
   | true =>
    exfalso
    have := (bef_listed dk inv.closed j i (fun o ho e he hbd => inv.closed j o e hb ho he hbd) hj).1
    rw [hif] at this; cases this
  -- what it reads of slots
  have hsl : ∀ t ∈ x.slots, fS t = fs i t := by
   intro t ht
   by_cases hw : ∃ (j : Nat) (y : ROper), rs[j]? = some y ∧ y.dst = some t
   ·obtain ⟨j, y, g1, g2⟩ := hw
    rcases dk.slots i x t j y hx ht g1 g2 with hb | hb
    ·obtain ⟨q1, q2⟩ := hbef j hb
     rw [inv.wrote j y t q1 g1 g2, tr.wrote dk.uniq g1 g2 q2 (by omega)]
    ·obtain ⟨q1, q2⟩ := haft j hb
     have e1 : fS t = fs 0 t := inv.kept t (fun j' y' h1 h2 h3 => by
      have := dk.uniq j' j y' y t h2 g1 h3 g2
      subst this
      rw [q1] at h1; cases h1)
     have e2 := tr.keep (t := t) (i := 0) i (by omega) (fun j' y' _ h1 h2 h3 => by
      have := dk.uniq j' j y' y t h2 g1 h3 g2
      omega)
     rw [Nat.zero_add] at e2
     rw [e1, e2]
   ·have hw' : ∀ (j : Nat) (y : ROper), rs[j]? = some y → y.dst ≠ some t := fun j y h1 h2 => hw ⟨j, y, h1, h2⟩
    rw [inv.kept t (fun j y _ h1 => hw' j y h1)]
    have := tr.keep (t := t) (i := 0) i (by omega) (fun j y _ _ h1 => hw' j y h1)
    rw [Nat.zero_add] at this
    exact this.symm
  have hst := tr.step i x hx
  -- the heap as this operation finds it
  have hop : ∃ m', m' ≤ rs.length ∧ (if wantedP fS x.guard then evalOp orc pure call x.op fS (hs m) else some (undefP, hs m)) = some (ps i, hs m') ∧
    ∀ (k : Nat) (y : ROper), rs[k]? = some y → y.op.kind = .effect → (k < m' ↔ (k = i ∨ listed.getD k false = true)) := by
   have ec : evalOp orc pure call x.op fS (hs m) = evalOp orc pure call x.op (fs i) (hs m) := evalOp_congr (fun t ht => hsl t (by unfold ROper.slots; simp [ht]))
   rw [wantedP_congr hsl, ec]
   cases hk : x.op.kind with
   | effect =>
    have hmi : hs m = hs i := by
     have hle : ∀ (k : Nat) (y : ROper), rs[k]? = some y → y.op.kind = .effect → (k < m ↔ k < i) := by
      intro k y hy hyk
      rw [inv.eff k y hy hyk]
      constructor
      ·intro hkl
       rcases Nat.lt_trichotomy k i with q | q | q
       ·exact q
       ·subst q; rw [hif] at hkl; cases hkl
       ·have := haft k (dk.chain i x k y hx hy q hk hyk)
        rw [this.1] at hkl; cases hkl
      ·intro hki
       exact (hbef k (dk.chain k y i x hy hx hki hyk hk)).1
     have hmle := inv.hm
     rcases Nat.le_total m i with q | q
     ·have := tr.noEffs (i := m) (i - m) (by omega) (fun j y h1 h2 hy hyk => by have := (hle j y hy hyk).2 (by omega); omega)
      rw [show m + (i - m) = i by omega] at this
      exact this.symm
     ·have := tr.noEffs (i := i) (m - i) (by omega) (fun j y h1 h2 hy hyk => by have := (hle j y hy hyk).1 (by omega); omega)
      rw [show i + (m - i) = m by omega] at this
      exact this
    refine ⟨i + 1, by omega, by rw [hmi]; exact hst, fun k y hy hyk => ?_⟩
    rcases Nat.lt_trichotomy k i with q | q | q
    ·have := (hbef k (dk.chain k y i x hy hx q hyk hk)).1
     simp [this]; omega
    ·simp [q]
    ·have := (haft k (dk.chain i x k y hx hy q hk hyk)).1
     constructor
     ·intro h; omega
     ·rintro (h | h)
      ·omega
      ·rw [this] at h; cases h
   | pure =>
    refine ⟨m, inv.hm, ?_, fun k y hy hyk => ?_⟩
    ·split
     ·rename_i hwt
      rw [if_pos hwt] at hst
      exact (evalOp_pure hk hst).2 (hs m)
     ·rename_i hwt
      rw [if_neg hwt] at hst
      simp only [Option.some.injEq, Prod.mk.injEq] at hst ⊢
      exact ⟨hst.1, trivial⟩
    ·rw [inv.eff k y hy hyk]
     constructor
     ·exact .inr
     ·rintro (h | h)
      ·subst h; rw [hx] at hy; cases hy; rw [hk] at hyk; cases hyk
      ·exact h
   | reads =>
    refine ⟨m, inv.hm, ?_, fun k y hy hyk => ?_⟩
    ·split
     ·rename_i hwt
      rw [if_pos hwt] at hst
      obtain ⟨n, b, hb⟩ := evalOp_reads hk
      rw [hb] at hst ⊢
      simp only [evalOp] at hst ⊢
      have hev : b.ev (fs i) = b.ev fS := ev_congr (fun t ht => (hsl t (by unfold ROper.slots; rw [hb]; simp [ROp.slots, ht])).symm)
      have hsti : loadP (hs i) (b.ev (fs i)) n = some (ps i, hs i) := by
       rw [loadP_some hst] at hst; exact hst
      -- the pointer is one that is there now
      obtain ⟨c1, c2, c3, c4⟩ := cOper_inv hcx
      rw [hb] at c1
      obtain ⟨ty, ad, hopx, hcad⟩ := load_opd c1
      have hvr := opd_sim r.sat r.fr hcad
      have hidm : ∀ id off, b.ev (fs i) = .ptr id off → id < (hs m).n := fun id off e => by
       rw [hev] at e; rw [e] at hvr
       obtain ⟨_, _, _, hn⟩ := hvr.ptr_inv
       rw [r.sat.n] at hn; exact hn
      have hidi : ∀ id off, b.ev (fs i) = .ptr id off → id < (hs i).n := fun id off e => by
       rw [e] at hsti
       rcases Nat.lt_or_ge id (hs i).n with q | q
       ·exact q
       ·simp only [loadP, (hwfk i (by omega)).box id q, Option.bind_none] at hsti
        cases hsti
      have hptr : ∀ (k : Nat) (y : ROper) (mm : Nat) (aa vv : Opd), rs[k]? = some y → y.op = .store mm aa vv → aa.ev (fs rs.length) = aa.ev (fs k) := by
       intro k y mm aa vv hy hyo
       refine ev_congr (fun t ht => ?_)
       have hkl : k < rs.length := (List.getElem?_eq_some_iff.1 hy).1
       have := tr.keep (t := t) (i := k) (rs.length - k) (by omega) (fun j z h1 h2 hz hd => by
        have htp : t ∈ ptrOpds y.op := by
         rw [hyo]
         cases aa with
         | tmp t' => simpa [Opd.slot, ptrOpds] using ht
         | const c => simp [Opd.slot] at ht
        have hbj := dk.ptrs k y t j z hy htp hz hd
        have := (bef_edge_lt dk hbj)
        omega)
       rw [show k + (rs.length - k) = rs.length by omega] at this
       exact this
      have hptr2 : b.ev (fs rs.length) = b.ev (fs i) := by
       refine ev_congr (fun t ht => ?_)
       have := tr.keep (t := t) (i := i) (rs.length - i) (by omega) (fun j z h1 h2 hz hd => by
        have htp : t ∈ ptrOpds x.op := by
         rw [hb]
         cases b with
         | tmp t' => simpa [Opd.slot, ptrOpds] using ht
         | const c => simp [Opd.slot] at ht
        have hbj := dk.ptrs i x t j z hx htp hz hd
        have := (bef_edge_lt dk hbj)
        omega)
       rw [show i + (rs.length - i) = rs.length by omega] at this
       exact this
      have hpair : ∀ (k : Nat) (y : ROper), rs[k]? = some y → y.op.kind = .effect → bef (masks ops.toList []) k i = false → bef (masks ops.toList []) i k = false →
        (∀ g as, y.op ≠ .call g as) ∧ (∀ mm aa vv, y.op = .store mm aa vv → apart (aa.ev (fs k)) mm (b.ev (fs i)) (n.getD 1)) := by
       intro k y hy hyk h1 h2
       obtain ⟨q1, q2⟩ := chk_pair hck hok hy hx hyk hb h1 h2
       refine ⟨q1, fun mm aa vv e => ?_⟩
       have := q2 mm aa vv e
       rw [hptr k y mm aa vv hy e, hptr2] at this
       exact this
      have hmle := inv.hm
      rcases Nat.le_total m i with q | q
      ·have := tr.load (q := b.ev (fs i)) (n := n) (v := ps i) (i := m) (i - m) (by omega) (fun k y h1 h2 hy hyk => by
        have hkn : listed.getD k false = false := by
         cases hb2 : listed.getD k false with
         | false => rfl
         | true => have := (inv.eff k y hy hyk).2 hb2; omega
        obtain ⟨p1, p2⟩ := hpair k y hy hyk (by
          cases hb3 : bef (masks ops.toList []) k i with
          | false => rfl
          | true => have := (hbef k hb3).1; rw [hkn] at this; cases this) (by
          cases hb3 : bef (masks ops.toList []) i k with
          | false => rfl
          | true => have := (haft k hb3).2; omega)
        exact ⟨p1, fun id off e => Nat.lt_of_lt_of_le (hidm id off e) (hmono m k h1 (by omega)), p2⟩)
       rw [show m + (i - m) = i by omega] at this
       exact this.1 hsti
      ·have := tr.load (q := b.ev (fs i)) (n := n) (v := ps i) (i := i) (m - i) (by omega) (fun k y h1 h2 hy hyk => by
        have hkl : listed.getD k false = true := (inv.eff k y hy hyk).1 (by omega)
        obtain ⟨p1, p2⟩ := hpair k y hy hyk (by
          cases hb3 : bef (masks ops.toList []) k i with
          | false => rfl
          | true => have := (hbef k hb3).2; omega) (by
          cases hb3 : bef (masks ops.toList []) i k with
          | false => rfl
          | true => have := (haft k hb3).1; rw [hkl] at this; cases this)
        exact ⟨p1, fun id off e => Nat.lt_of_lt_of_le (hidi id off e) (hmono i k h1 (by omega)), p2⟩)
       rw [show i + (m - i) = m by omega] at this
       exact this.2 hsti
     ·rename_i hwt
      rw [if_neg hwt] at hst
      simp only [Option.some.injEq, Prod.mk.injEq] at hst ⊢
      exact ⟨hst.1, trivial⟩
    ·rw [inv.eff k y hy hyk]
     constructor
     ·exact .inr
     ·rintro (h | h)
      ·subst h; rw [hx] at hy; cases hy; rw [hk] at hyk; cases hyk
      ·exact h
  obtain ⟨m', hm'le, hev, heff⟩ := hop
  refine oper_wp r (by simp [hi1]) hcx hcall hpure horc hev (fun K' a' w' hst2 hr2 _ => ?_)
  have hget : ∀ j, (listed.setIfInBounds i true).getD j false = if j = i then true else listed.getD j false := by
   intro j
   by_cases hji : j = i
   ·subst hji; simp [Array.getD, hlt]
   ·simp only [Array.getD_eq_getD_getElem?, Array.getElem?_setIfInBounds]
    rw [if_neg (Ne.symm hji), if_neg hji]
  refine ih (listed.setIfInBounds i true) _ m' K' a' w' ⟨by simp [inv.size], fun j o e hj ho he hb => ?_, fun j y t hj hy hd => ?_, fun t ht => ?_, hm'le, fun k y hy hyk => ?_⟩ ?_ hr2
   (fun K2 a2 w2 s2 r2 => hq K2 a2 w2 (hst2.trans s2) r2)
  ·rw [hget] at hj ⊢
   split at hj
   ·rename_i e1; subst e1
    split
    ·rfl
    ·exact hi3 o ho e he hb
   ·split
    ·rfl
    ·exact inv.closed j o e hj ho he hb
  ·rw [hget] at hj
   by_cases hji : j = i
   ·subst hji
    rw [hx] at hy; cases hy
    rw [hd, putD_eq]
   ·rw [if_neg hji] at hj
    rw [putD_ne (fun hd2 => hji (dk.uniq j i y x t hy hx hd hd2)), inv.wrote j y t hj hy hd]
  ·have hxi := ht i x (by rw [hget]; simp) hx
   rw [putD_ne hxi]
   exact inv.kept t (fun j y hj hy => ht j y (by rw [hget]; split <;> simp [hj]) hy)
  ·rw [heff k y hy hyk, hget]
   constructor
   ·rintro (h | h)
    ·rw [if_pos h]
    ·split
     ·rfl
     ·exact h
   ·intro h
    split at h
    ·rename_i e1; exact .inl e1
    ·exact .inr h
  ·have h1 : listed.toList[i]? = some false := by
    have : listed[i] = false := by simpa [Array.getD, hlt] using hi2
    simp [hlt, this]
   have := countP_set listed.toList i h1
   rw [Array.toList_setIfInBounds]
   omega
end
end Go.Proofs.YtmngkcpobmhnoaaGreatDoor.Sim
/- Calls of functions and of yields, out of what is known of code. -/
namespace Go.Proofs.YtmngkcpobmhnoaaGreatDoor.Sim

section
variable {P : Program} {C : CEnv} {E : Env} {dC : DC}

def ExitOK : RExit → Exit → Prop
 | .normal, .normal => True
 | .exit i, .exit j => i = j
 | .ret, .ret => True
 | _, _ => False

def CodePost (P : Program) (C : CEnv) (ro : Option Nat) (nt lo : Nat) (K : KW) (w : World) (e : RExit) (f' : Fr) (h' : Heap) : Exit → Act → World → Prop :=
 fun x a' w' => ExitOK e x ∧ ∃ K', Step K w K' w' ∧ Rel P C ro nt lo K' h' f' a' w'

def CodeSim (P : Program) (C : CEnv) (dC : DC) : Prop :=
 ∀ (c : Code) (rc : RCode) (nt : Nat), cCode P C nt c = some rc → ∀ f h e f' h', dC rc f h = some (e, f', h') →
  ∀ ro lo K a w, Rel P C ro nt lo K h f a w → c.wpIn (Fw ro) 0 P (CodePost P C ro nt lo K w e f' h') a w

def CodeWF (dC : DC) : Prop := ∀ rc f h e f' h', dC rc f h = some (e, f', h') → WFle h h'

structure HeapSim (P : Program) (C : CEnv) (horc : FuncId → List PV → Heap → Option (PV × Heap)) : Prop where
 wf : ∀ g args h r h', horc g args h = some (r, h') → WFle h h'
 sim : ∀ g args h r h', horc g args h = some (r, h') → ∀ K w vs, Sat P C K h w → ArgsOK K args vs → HasCode P g ∧ CallsIn Fence.wide 0 P g vs w (CallPost P C K w h' r)

structure EnvOK (P : Program) (C : CEnv) (E : Env) : Prop where
 fn : ∀ g R, E.fn g = some R → compile P C g = some R
 horc : HeapSim P C E.horc

structure FnOK (P : Program) (C : CEnv) (g : FuncId) (R : RFunc) (fn : Func) (c : Code) : Prop where
 hfn : P.funcs[g]? = some fn
 name : fn.name ≠ "runtime.NumGoroutine"
 body : fn.body = some c
 code : cCode P C fn.ntmps c = some R.body
 res : mapO (cRes P fn.ntmps) fn.results.toList = some R.results
 np : R.np ≤ fn.ntmps

theorem compile_inv {g : FuncId} {R : RFunc} (h : compile P C g = some R) : ∃ fn c, FnOK P C g R fn c := by
 unfold compile at h
 cases hf : P.funcs[g]? with
 | none => rw [hf] at h; cases h
 | some fn =>
  rw [hf] at h
  simp only [Option.bind_some, cFunc] at h
  split at h
  ·cases h
  ·rename_i hn
   split at h
   ·cases h
   ·rename_i c hb
    split at h
    ·rename_i b rs h1 h2
     split at h
     ·rename_i hle
      cases h
      exact ⟨fn, c, ⟨hf, hn, hb, h1, h2, hle⟩⟩
     ·cases h
    ·cases h

theorem FnOK.has {g : FuncId} {R : RFunc} {fn : Func} {c : Code} (k : FnOK P C g R fn c) : HasCode P g := ⟨fn, k.hfn, k.name, by rw [k.body]; rfl⟩

theorem frameOf_get : ∀ (ps : List PV) (i t : Nat), frameOf ps i t = if i ≤ t then (ps[t - i]?).getD undefP else undefP
 | [], i, t => by simp [frameOf]
 | p :: ps, i, t => by
  simp only [frameOf, Fr.put]
  by_cases h : t = i
  ·subst h; simp
  ·rw [if_neg h, frameOf_get ps (i + 1) t]
   by_cases h2 : i ≤ t
   ·rw [if_pos (by omega), if_pos h2, show t - i = (t - (i + 1)) + 1 by omega, List.getElem?_cons_succ]
   ·rw [if_neg (by omega), if_neg h2]

theorem frame_ok {K : KW} {ps : List PV} {vs : Array Value} (ha : ArgsOK K ps vs) {nt : Nat} (hle : ps.length ≤ nt) : FrOK K nt (frameOf ps 0) (vs ++ Array.replicate (nt - vs.size) Go.undef) := by
 refine ⟨by simp [← ha.size]; omega, fun t => ?_⟩
 rw [frameOf_get, if_pos (Nat.zero_le _), Nat.sub_zero, Array.getD_eq_getD_getElem?, Array.getElem?_append]
 by_cases h : t < vs.size
 ·have h2 : t < ps.length := by rw [ha.size]; exact h
  rw [if_pos h]
  simp only [List.getElem?_eq_getElem h2, Array.getElem?_eq_getElem h, Option.getD_some]
  exact ha.rel t _ _ (by simp [h2]) (by simp [h])
 ·have h2 : ¬ t < ps.length := by rw [ha.size]; exact h
  rw [if_neg h, List.getElem?_eq_none (by omega)]
  simp only [Option.getD_none]
  have : ((Array.replicate (nt - vs.size) Go.undef)[t - vs.size]?).getD Go.undef = Go.undef := by
   rw [Array.getElem?_replicate]; split <;> rfl
  rw [this]; exact vr_undef K

def resGet (tmps : Array Value) : ResultVar → Sem Value
 | .tmp t => Pure.pure (tmps.getD t Go.undef)
 | .cell a t => do loadVar t (← asAddr (tmps.getD a Go.undef))

theorem results_eq (fn : Func) (tmps : Array Value) : results fn tmps = (do let vs ← fn.results.mapM (resGet tmps); Pure.pure (if h : vs.size = 1 then vs[0] else .tuple vs)) := by
 unfold results
 congr 1

theorem res_run {K : KW} {h : Heap} {w : World} {nt : Nat} {f : Fr} {tmps : Array Value} (s : Sat P C K h w) (hf : FrOK K nt f tmps) : ∀ (l : List ResultVar) (rs : List RRes) (ps : List PV), mapO (cRes P nt) l = some rs → mapO (resP f h) rs = some ps →
  ∃ us : List Value, (l.mapM (resGet tmps)).run P w = .ok us w ∧ us.length = ps.length ∧
   ∀ (i : Nat) (p : PV) (u : Value), ps[i]? = some p → us[i]? = some u → VR K p u
 | [], rs, ps, h1, h2 => by cases h1; cases h2; exact ⟨[], rfl, rfl, by simp⟩
 | x :: l, rs, ps, h1, h2 => by
  simp only [mapO] at h1
  split at h1
  ·rename_i r rs' e1 e2
   cases h1
   simp only [mapO] at h2
   split at h2
   ·rename_i p ps' g1 g2
    cases h2
    obtain ⟨us, a1, a2, a3⟩ := res_run s hf l rs' ps' e2 g2
    have hx : ∃ u, (resGet tmps x).run P w = .ok u w ∧ VR K p u := by
     cases x with
     | tmp t =>
      simp only [cRes] at e1
      split at e1
      ·cases e1; cases g1; exact ⟨_, rfl, hf.rel t⟩
      ·cases e1
     | cell t ty =>
      simp only [cRes] at e1
      split at e1
      ·simp only [Option.map_eq_some_iff] at e1
       obtain ⟨n, hn, rfl⟩ := e1
       simp only [resP] at g1
       split at g1
       ·rename_i id off hp
        have hv := hf.rel t
        rw [hp] at hv
        cases hb : h.box id with
        | none => rw [hb] at g1; cases g1
        | some cs =>
         rw [hb] at g1
         simp only [Option.bind_some] at g1
         obtain ⟨u, q1, q2, _⟩ := run_load_sim s hn hv (p := p) (h' := h) (by simp only [loadP, hb, Option.bind_some, g1, Option.map_some])
         obtain ⟨b, hev, _⟩ := hv.ptr_inv
         refine ⟨u, ?_, q2⟩
         show (do loadVar ty (← asAddr (tmps.getD t Go.undef)) : Sem Value).run P w = .ok u w
         rw [hev] at q1 ⊢
         simpa [asAddr, Instr.loadAt, Instr.sureAddr] using q1
       ·cases g1
      ·cases e1
    obtain ⟨u, hu1, hu2⟩ := hx
    refine ⟨u :: us, ?_, by simp [a2], fun i p' u' hp hu => ?_⟩
    ·simp only [List.mapM_cons, Sem.run_bind]
     simp only [hu1, Result.andThen_ok, a1, Sem.run_pure]
    ·cases i with
     | zero => simp at hp hu; subst hp hu; exact hu2
     | succ i => exact a3 i p' u' (by simpa using hp) (by simpa using hu)
   ·cases h2
  ·cases h1

theorem pack_ok {K : KW} {ps : List PV} {us : List Value} (hl : us.length = ps.length) (h : ∀ (i : Nat) (p : PV) (u : Value), ps[i]? = some p → us[i]? = some u → VR K p u) :
  VR K (packP ps) (if h : us.toArray.size = 1 then us.toArray[0] else .tuple us.toArray) := by
 have tup : us.length ≠ 1 → VR K (.tuple ps) (if h : us.toArray.size = 1 then us.toArray[0] else .tuple us.toArray) := by
  intro hne
  rw [dif_neg (by simpa using hne)]
  exact .tuple _ _ (by simp [hl]) (fun i p v hp hv => h i p v hp (by simpa using hv))
 rcases ps with _ | ⟨p, _ | ⟨q, ps⟩⟩
 ·exact tup (by rw [hl]; simp)
 ·rcases us with _ | ⟨u, _ | ⟨v, us⟩⟩
  ·simp at hl
  ·simpa [packP] using h 0 p u (by simp) (by simp)
  ·simp at hl
 ·exact tup (by rw [hl]; simp)

theorem leaves_ok {fn : Func} {tmps : Array Value} {K0 : KW} {w0 : World} {K : KW} {h' : Heap} {r : PV}
  (hres : ∀ (w : World), Sat P C K h' w → ∃ us : List Value, (fn.results.toList.mapM (resGet tmps)).run P w = .ok us w ∧
   VR K r (if h : us.toArray.size = 1 then us.toArray[0] else .tuple us.toArray)) :
  ∀ (ds : List Deferred) (w : World), Marks w0.heap.size K w ds → Sat P C K h' w → Step K0 w0 K w → LeavesInM Fence.wide 0 P fn tmps (CallPost P C K0 w0 h' r) ds .returning w
 | [], w, hm, s, st => by
  obtain ⟨us, h1, hv⟩ := hres w s
  refine ⟨_, ?_, _, K, rfl, hv, st, s⟩
  rw [results_eq, Array.mapM_eq_mapM_toList]
  simp only [Sem.run_bind, Sem.run_map]
  rw [h1]
  rfl
 | d :: ds, w, hm, s, st => by
  obtain ⟨rs, h1, h2, h3⟩ := hm
  cases rs with
  | nil => simp at h1
  | cons b rs =>
   simp only [List.map_cons, List.cons.injEq] at h1
   obtain ⟨hd, h1⟩ := h1
   obtain ⟨g1, g2, g3⟩ := h3 b (by simp)
   rw [List.nodup_cons] at h2
   let w' : World := { w with heap := w.heap.setIfInBounds b (.deferred none) }
   have hoth : ∀ x, x ≠ b → w'.heap[x]? = w.heap[x]? := fun x hx => by simp [w', Array.getElem?_setIfInBounds, Ne.symm hx]
   have s' : Sat P C K h' w' := s.keep (fun x hx => hoth x (fun e => g3 (e ▸ hx))) (fun x o v hv => by
    have := s.im x o v hv
    have hne : x ≠ b := fun e => by unfold cellAt at this; rw [e, g2] at this; cases this
    unfold cellAt at this ⊢
    rw [hoth x hne]; exact this)
   have st' : Step K0 w0 K w' := ⟨⟨st.env.1, st.env.2.1, st.env.2.2⟩, st.le, by simp [w']; exact st.size, st.fp, fun x hx hn => by rw [hoth x (by omega)]; exact st.same x hx hn, st.ims⟩
   refine ⟨by simp, .inl ⟨b, w', hd, ?_, leaves_ok hres ds w' ⟨rs, h1, h2.2, fun x hx => ?_⟩ s' st'⟩⟩
   ·simp [Instr.takeDeferred, getObj, setObj, Sem.run, g2, w']
   ·obtain ⟨q1, q2, q3⟩ := h3 x (by simp [hx])
    refine ⟨q1, ?_, q3⟩
    rw [hoth x (fun e => h2.1 (e ▸ hx))]; exact q2

theorem enter_sim (hcs : CodeSim P C dC) {g : FuncId} {R : RFunc} {fn : Func} {c : Code} (ok : FnOK P C g R fn c) {args : List PV} {h h' : Heap} {r : PV} (he : enterP dC R args h = some (r, h'))
  {K : KW} {w : World} {vs : Array Value} (s : Sat P C K h w) (ha : ArgsOK K args vs) : CallsIn Fence.wide 0 P g vs w (CallPost P C K w h' r) := by
 unfold enterP at he
 split at he
 ·rename_i hnp
  have key : ∀ e f', dC R.body (frameOf args 0) h = some (e, f', h') → (e = .normal ∨ e = .ret) → (mapO (resP f' h') R.results).map (fun vs => (packP vs, h')) = some (r, h') → CallsIn Fence.wide 0 P g vs w (CallPost P C K w h' r) := by
   intro e f' hd hex hr
   simp only [Option.map_eq_some_iff, Prod.mk.injEq, and_true] at hr
   obtain ⟨ps, hps, rfl⟩ := hr
   refine callsIn_of_wp_marks ok.hfn ok.body trivial ?_
   have rel : Rel P C none fn.ntmps w.heap.size K h (frameOf args 0) { tmps := vs ++ Array.replicate (fn.ntmps - vs.size) Go.undef, defers := [] } w :=
    ⟨s, frame_ok ha (by rw [hnp]; exact ok.np), ⟨[], rfl, List.nodup_nil, by simp⟩, (fun l hl => by cases hl), Nat.le_refl _⟩
   have hw := hcs c R.body fn.ntmps ok.code _ _ _ _ _ hd none w.heap.size K _ w rel
   refine wpIn_mono hw ?_
   rintro x a' w' ⟨hx, K', st, rel'⟩
   have hl := leaves_ok (fn := fn) (tmps := a'.tmps) (K0 := K) (w0 := w) (h' := h') (r := packP ps)
    (fun w2 s2 => by
     obtain ⟨us2, v1, v2, v3⟩ := res_run s2 rel'.fr fn.results.toList R.results ps ok.res hps
     exact ⟨us2, v1, pack_ok v2 v3⟩) a'.defers w' rel'.marks rel'.sat st
   rcases hex with rfl | rfl
   ·cases x <;> simp only [ExitOK] at hx
    exact hl
   ·cases x <;> simp only [ExitOK] at hx
    exact hl
  split at he
  ·rename_i f' h2 hd
   simp only [Option.map_eq_some_iff] at he
   obtain ⟨ps, hps, he⟩ := he
   cases he
   exact key _ _ hd (.inl rfl) (by rw [hps]; rfl)
  ·rename_i f' h2 hd
   simp only [Option.map_eq_some_iff] at he
   obtain ⟨ps, hps, he⟩ := he
   cases he
   exact key _ _ hd (.inr rfl) (by rw [hps]; rfl)
  ·cases he
 ·cases he

theorem call_func (hcs : CodeSim P C dC) (hE : EnvOK P C E) {g : FuncId} {x y args : List PV} {h h' : Heap} {r : PV} (he : callP E dC (.func g x y) args h = some (r, h')) {K : KW} {w : World} {b o vs : Array Value}
  (s : Sat P C K h w) (hv : VR K (.func g x y) (.func (.func g) b o)) (ha : ArgsOK K args vs) : HasCode P g ∧ CallsIn Fence.wide 0 P g (b ++ vs ++ o) w (CallPost P C K w h' r) := by
 have hargs : ArgsOK K (x ++ args ++ y) (b ++ vs ++ o) := by
  obtain ⟨b', o', e, s1, s2, r1, r2⟩ := hv.func_inv
  cases e
  refine ⟨by simp [s1, s2, ha.size], fun i p v hp hv => ?_⟩
  rw [List.getElem?_append] at hp
  rw [Array.getElem?_append] at hv
  simp only [List.length_append, Array.size_append, s1, ha.size] at hp hv
  split at hp
  ·rename_i h1
   rw [if_pos h1] at hv
   rw [List.getElem?_append] at hp
   rw [Array.getElem?_append] at hv
   simp only [s1] at hp
   split at hp
   ·rename_i h2; rw [if_pos h2] at hv; exact r1 _ _ _ hp hv
   ·rename_i h2; rw [if_neg h2] at hv; exact ha.rel _ _ _ hp hv
  ·rename_i h1
   rw [if_neg h1] at hv
   exact r2 _ _ _ hp hv
 simp only [callP] at he
 cases hR : E.fn g with
 | none => rw [hR] at he; exact hE.horc.sim _ _ _ _ _ he K w _ s hargs
 | some R =>
  rw [hR] at he
  obtain ⟨fn, c, ok⟩ := compile_inv (hE.fn g R hR)
  exact ⟨ok.has, enter_sim hcs ok he s hargs⟩

theorem pure_sim (hcs : CodeSim P C dC) (hE : EnvOK P C E) : PureSim P C (pureP E dC) := by
 intro g as r he im w vs hi ha
 unfold pureP at he
 cases hR : E.fn g with
 | none => rw [hR] at he; cases he
 | some R =>
  rw [hR] at he
  simp only [Option.bind_some] at he
  cases hen : enterP dC R as Heap.empty with
  | none => rw [hen] at he; cases he
  | some q =>
   obtain ⟨r0, h0⟩ := q
   rw [hen] at he
   simp only [Option.bind_some] at he
   obtain ⟨fn, c, ok⟩ := compile_inv (hE.fn g R hR)
   have s0 : Sat P C (K0 im) Heap.empty w :=
    {
     n := rfl, box0 := fun _ _ => rfl, boxn := fun _ _ => rfl, box := fun _ _ h => (by cases h), inj := fun _ _ _ h => (by cases h), boxim := fun _ _ _ h => (by cases h), live0 := fun _ _ => rfl, liven := fun _ _ => rfl,
     live := fun _ h => (by cases h), ginj := fun _ _ _ _ h => (by cases h), gbox := fun _ _ _ _ h => (by cases h), im := hi.cell, lp0 := fun _ _ => rfl, lpn := fun _ _ => rfl, lp := fun _ _ h => (by cases h),
     lpinj := fun _ _ _ h => (by cases h), glob := hi.glob }
   refine ⟨ok.has, CallsIn.mono (enter_sim hcs ok hen s0 ha) ?_⟩
   rintro e w' ⟨u, K', rfl, hv, st, s'⟩
   have nfp : ∀ b, ¬ (K0 im).fp b := by rintro b (⟨_, h⟩ | ⟨_, _, h, _⟩ | ⟨_, h⟩) <;> cases h
   exact ⟨u, K'.im, rfl, st3_ir hv he, st.le.im, fun b o hb => st.ims b o hb (nfp b), s'.imOK, st.env, st.size, fun b hb => st.same b hb (nfp b)⟩

theorem putAll_ok {K : KW} {nt : Nat} : ∀ {f : Fr} {tmps : Array Value} (ts : List Nat) (ps : List PV) (vs : List Value), FrOK K nt f tmps → (∀ t ∈ ts, t < nt) → ps.length = vs.length →
  (∀ (i : Nat) (p : PV) (v : Value), ps[i]? = some p → vs[i]? = some v → VR K p v) → FrOK K nt (putAll f ts ps) ((ts.zip vs).foldl (fun tmps (t, a) => tmps.setIfInBounds t a) tmps)
 | f, tmps, [], ps, vs, hf, _, _, _ => by simpa [putAll] using hf
 | f, tmps, t :: ts, [], vs, hf, _, hl, _ => by
  cases vs with
  | nil => simpa [putAll] using hf
  | cons => simp at hl
 | f, tmps, t :: ts, p :: ps, [], hf, _, hl, _ => by simp at hl
 | f, tmps, t :: ts, p :: ps, v :: vs, hf, ht, hl, hr => by
  simp only [putAll, List.zip_cons_cons, List.foldl_cons]
  exact putAll_ok ts ps vs (hf.put (ht t (by simp)) (hr 0 p v rfl rfl)) (fun t' h => ht t' (by simp [h])) (by simpa using hl) (fun i p v h1 h2 => hr (i + 1) p v (by simpa using h1) (by simpa using h2))

theorem zip_foldl (ts : Array Nat) (vs : Array Value) (tmps : Array Value) : (ts.zip vs).foldl (fun tmps (t, a) => tmps.setIfInBounds t a) tmps = (ts.toList.zip vs.toList).foldl (fun tmps (t, a) => tmps.setIfInBounds t a) tmps := by
 rw [← Array.foldl_toList, Array.toList_zip]

theorem setHeap (w : World) (b : Nat) (o : Obj) (hb : b < w.heap.size) : let w' : World := { w with heap := w.heap.setIfInBounds b o }
  w'.heap[b]? = some o ∧ (∀ x, x ≠ b → w'.heap[x]? = w.heap[x]?) ∧ w'.heap.size = w.heap.size := by
 refine ⟨by simp [hb], fun x hx => by simp [Array.getElem?_setIfInBounds, Ne.symm hx], by simp⟩

theorem call_yield (hcs : CodeSim P C dC) {l : Nat} {args : List PV} {h h' : Heap} {r : PV} (he : callP E dC (.yield l) args h = some (r, h')) {K : KW} {w : World} {vs : Array Value}
  (s : Sat P C K h w) (ha : ArgsOK K args vs) : ∃ b lr, K.lp l = some b ∧ w.heap[b]? = some (.loop lr) ∧ vs.size = lr.params.size ∧
   RoundIn Fence.wide 0 P b lr.fn ((lr.params.zip vs).foldl (fun tmps (t, a) => tmps.setIfInBounds t a) lr.tmps) lr.assign lr.body w (CallPost P C K w h' r) := by
 simp only [callP] at he
 cases hl : h.loop l with
 | none => rw [hl] at he; cases he
 | some lrec =>
  rw [hl] at he
  simp only [Option.bind_some] at he
  obtain ⟨b, lr, g1, g2, g3⟩ := s.lp l lrec hl
  refine ⟨b, lr, g1, g2, ?_⟩
  unfold roundP at he
  split at he
  ·rename_i hready
   split at he
   ·rename_i hlen
    have hsz : vs.size = lr.params.size := by rw [← ha.size, hlen, ← g3.params]; simp
    refine ⟨hsz, ?_⟩
    obtain ⟨nt, hfr, hca, hcb, hpl⟩ := g3.code
    split at he
    ·rename_i f1 h1 hd1
     cases hl1 : h1.loop l with
     | none => rw [hl1] at he; cases he
     | some r1 =>
      rw [hl1] at he
      simp only at he
      split at he
      ·rename_i hready1
       cases hd2 : dC lrec.body f1 (h1.setLoop l { r1 with state := .busy }) with
       | none => rw [hd2] at he; cases he
       | some q =>
        obtain ⟨e, f2, h2⟩ := q
        rw [hd2] at he
        simp only at he
        cases hl2 : h2.loop l with
        | none => rw [hl2] at he; cases he
        | some r2 =>
         rw [hl2] at he
         simp only at he
         -- the round's frame
         have hln : l < K.n := by
          rcases Nat.lt_or_ge l K.n with q | q
          ·exact q
          ·rw [s.n] at q; rw [s.lpn l q] at hl; cases hl
         have rel0 : Rel P C (some b) nt w.heap.size K h (putAll lrec.tmps lrec.params args) { tmps := (lr.params.zip vs).foldl (fun tmps (t, a) => tmps.setIfInBounds t a) lr.tmps, defers := [] } w := by
          refine ⟨s, ?_, ⟨[], rfl, List.nodup_nil, by simp⟩, fun l' hl' => by cases hl'; exact ⟨l, hln, g1⟩, Nat.le_refl _⟩
          rw [zip_foldl, g3.params]
          exact putAll_ok _ _ _ hfr hpl (by simpa using ha.size) (fun i p v hp hv => ha.rel i p v hp (by simpa using hv))
         refine roundIn_of_wpIn trivial ?_
         refine wpIn_mono (hcs lr.assign lrec.assign nt hca _ _ _ _ _ hd1 (some b) _ K _ w rel0) ?_
         rintro x a1 w1 ⟨hx, K1, st1, rel1⟩
         cases x <;> simp only [ExitOK] at hx
         -- the round begins
         obtain ⟨b1, lr1, q1, q2, q3⟩ := rel1.sat.lp l r1 hl1
         have hb1 : b1 = b := by
          have := st1.le.lp l hln
          rw [q1, g1] at this; exact Option.some.inj this
         subst hb1
         have hst1 : lr1.state = .ready := by
          have := q3.st
          rw [hready1] at this
          cases hq : lr1.state <;> rw [hq] at this <;> first | rfl | exact this.elim
         obtain ⟨u1, u2, u3⟩ := setHeap w1 b1 (.loop { lr1 with state := .busy }) (lt_of_heap q2)
         let w2 : World := { w1 with heap := w1.heap.setIfInBounds b1 (.loop { lr1 with state := .busy }) }
         refine ⟨w2, ?_, ?_⟩
         ·simp [Instr.beginRound, run_getLoop q2, setObj, Sem.run, q2, hst1, w2]
         have sat2 : Sat P C K1 (h1.setLoop l { r1 with state := .busy }) w2 := rel1.sat.setLoop hl1 q1 u1 u2 ⟨trivial, q3.pend, q3.params, q3.code⟩
         have stp2 : Step K1 w1 K1 w2 := ⟨⟨rfl, rfl, rfl⟩, .refl K1, Nat.le_of_eq u3.symm, fun _ h => .inl h, fun x hx hn => u2 x (fun e => hn (e ▸ .inr (.inr ⟨l, q1⟩))), fun _ _ _ _ => rfl⟩
         have rel2 := rel1.step stp2 sat2
         refine wpIn_mono (hcs lr.body lrec.body nt hcb _ _ _ _ _ hd2 (some b1) _ K1 _ w2 rel2) ?_
         rintro y a3 w3 ⟨hy, K3, st3, rel3⟩
         obtain ⟨b3, lr3, p1, p2, p3⟩ := rel3.sat.lp l r2 hl2
         have hb3 : b3 = b1 := by
          have e1 := st3.le.lp l (Nat.lt_of_lt_of_le hln st1.le.n)
          rw [p1, q1] at e1; exact Option.some.inj e1
         subst hb3
         have fin : ∀ (jump : Option Code) (r3 : LoopRec) (bv : Bool), bv = jump.isNone → LoopOK P C K3 r3 { lr3 with state := if jump.isNone then .ready else .done, pending := jump } → h' = h2.setLoop l r3 → r = .bool bv →
           ∃ v w', (Instr.endRound b3 jump).run P w3 = .ok v w' ∧ CallPost P C K w h' r (.returned v) w' := by
          intro jump r3 bv hbv hok hh' hr
          obtain ⟨z1, z2, z3⟩ := setHeap w3 b3 (.loop { lr3 with state := if jump.isNone then .ready else .done, pending := jump }) (lt_of_heap p2)
          refine ⟨.bool bv, { w3 with heap := w3.heap.setIfInBounds b3 (.loop { lr3 with state := if jump.isNone then .ready else .done, pending := jump }) }, ?_, ?_⟩
          ·simp only [Instr.endRound, Sem.run_bind, run_getLoop p2, Result.andThen_ok, setObj, Sem.run, p2, Sem.run_pure]
           rw [hbv]
          ·have stp4 : Step K3 w3 K3 { w3 with heap := w3.heap.setIfInBounds b3 (.loop { lr3 with state := if jump.isNone then .ready else .done, pending := jump }) } :=
            ⟨⟨rfl, rfl, rfl⟩, .refl K3, Nat.le_of_eq z3.symm, fun _ h => .inl h, fun x hx hn => z2 x (fun e => hn (e ▸ .inr (.inr ⟨l, p1⟩))), fun _ _ _ _ => rfl⟩
           refine ⟨.bool bv, K3, rfl, by rw [hr]; exact .ir (.bool _), ((st1.trans stp2).trans st3).trans stp4, ?_⟩
           rw [hh']
           exact rel3.sat.setLoop hl2 p1 z1 z2 hok
         cases e with
         | normal =>
          cases y <;> simp only [ExitOK] at hy
          simp only [Option.some.injEq, Prod.mk.injEq] at he
          exact fin none { r2 with state := .ready, pending := none } true rfl ⟨trivial, trivial, p3.params, p3.code⟩ he.2.symm he.1.symm
         | exit i =>
          cases y <;> simp only [ExitOK] at hy
          subst hy
          simp only [Option.some.injEq, Prod.mk.injEq] at he
          exact fin (some (.exit i)) { r2 with state := .done, pending := some (.exit i) } false rfl ⟨trivial, rfl, p3.params, p3.code⟩ he.2.symm he.1.symm
         | ret =>
          cases y <;> simp only [ExitOK] at hy
          simp only [Option.some.injEq, Prod.mk.injEq] at he
          exact fin (some .ret) { r2 with state := .done, pending := some .ret } false rfl ⟨trivial, trivial, p3.params, p3.code⟩ he.2.symm he.1.symm
      ·cases he
    ·cases he
   ·cases he
  ·cases he

theorem call_sim (hcs : CodeSim P C dC) (hE : EnvOK P C E) : CallSim P C (callP E dC) where
 func g x y args h r h' he K w b o vs s hv ha := call_func hcs hE he s hv ha
 yield l args h r h' he K w vs s ha := call_yield hcs he s ha
 only fv args h r he := by
  unfold callP at he
  split at he
  ·exact .inl ⟨_, _, _, rfl⟩
  ·exact .inr ⟨_, rfl⟩
  ·cases he

theorem call_wf (hw : CodeWF dC) (hH : ∀ g args h r h', E.horc g args h = some (r, h') → WFle h h') : ∀ fv args h r h', callP E dC fv args h = some (r, h') → WFle h h' := by
 intro fv args h r h' he
 unfold callP at he
 split at he
 ·cases hR : E.fn _ with
  | none => rw [hR] at he; exact hH _ _ _ _ _ he
  | some R =>
   rw [hR] at he
   simp only [enterP] at he
   split at he
   ·split at he
    ·rename_i f' h2 hd
     simp only [Option.map_eq_some_iff] at he
     obtain ⟨ps, _, he⟩ := he
     cases he
     exact hw _ _ _ _ _ _ hd
    ·rename_i f' h2 hd
     simp only [Option.map_eq_some_iff] at he
     obtain ⟨ps, _, he⟩ := he
     cases he
     exact hw _ _ _ _ _ _ hd
    ·cases he
   ·cases he
 ·rename_i l
  cases hl : h.loop l with
  | none => rw [hl] at he; cases he
  | some lrec =>
   rw [hl] at he
   simp only [Option.bind_some, roundP] at he
   split at he
   ·split at he
    ·split at he
     ·rename_i f1 h1 hd1
      have a1 := hw _ _ _ _ _ _ hd1
      cases hl1 : h1.loop l with
      | none => rw [hl1] at he; cases he
      | some r1 =>
       rw [hl1] at he
       simp only at he
       split at he
       ·cases hd2 : dC lrec.body f1 (h1.setLoop l { r1 with state := .busy }) with
        | none => rw [hd2] at he; cases he
        | some q =>
         obtain ⟨e, f2, h2⟩ := q
         rw [hd2] at he
         simp only at he
         have a2 := hw _ _ _ _ _ _ hd2
         have a3 : WFle h1 (h1.setLoop l { r1 with state := .busy }) := wf_setLoop (by rw [hl1]; simp) _
         cases hl2 : h2.loop l with
         | none => rw [hl2] at he; cases he
         | some r2 =>
          rw [hl2] at he
          simp only at he
          have fin : ∀ r3, WFle h (h2.setLoop l r3) := fun r3 => ((a1.trans a3).trans a2).trans (wf_setLoop (by rw [hl2]; simp) _)
          split at he <;> (simp only [Option.some.injEq, Prod.mk.injEq] at he; rw [← he.2]; exact fin _)
       ·cases he
     ·cases he
    ·cases he
   ·cases he
 ·cases he
end
end Go.Proofs.YtmngkcpobmhnoaaGreatDoor.Sim
/- The simulation: what the evaluator says of code, the model's machine does. -/
namespace Go.Proofs.YtmngkcpobmhnoaaGreatDoor.Sim

section
variable {P : Program} {C : CEnv} {E : Env} {dC : DC} {K : KW} {h : Heap} {f : Fr} {a : Act} {w : World} {ro : Option Nat} {nt lo : Nat}

theorem CodePost.from {K1 : KW} {w1 : World} {e : RExit} {f' : Fr} {h' : Heap} (st : Step K w K1 w1) {x : Exit} {a' : Act} {w' : World} (p : CodePost P C ro nt lo K1 w1 e f' h' x a' w') : CodePost P C ro nt lo K w e f' h' x a' w' :=
 let ⟨h1, K', h2, h3⟩ := p; ⟨h1, K', st.trans h2, h3⟩

theorem stepR_scope' {b : Frame} {k : List Item} {cs : List Frame} {c : Code} :
  step P (lone (b.atR a (.code (.scope c) :: k)) cs w) = .next (lone (b.atR a (.code c :: .inScope c :: k)) cs w) :=
 step_lone_go (by simp [stepG, stepG.exec, Frame.atR])
theorem stepR_inScope' {b : Frame} {k : List Item} {cs : List Frame} {c : Code} :
  step P (lone (b.atR a (.inScope c :: k)) cs w) = .next (lone (b.atR a k) cs w) :=
 step_lone_go (by simp [stepG, stepG.exec, Frame.atR])

theorem wpIn_scope {F : Fence} {n : Nat} {c : Code} {Q : Exit → Act → World → Prop} (hq : ∀ l a w, ¬ Q (.goto l) a w) (h : c.wpIn F n P Q a w) : (Code.scope c).wpIn F n P Q a w := by
 intro b k cs hro hb hr
 have h0 : (lone (b.atR a (.code (.scope c) :: k)) cs w).fenced P F := fenced_calm hb hr rfl
 obtain ⟨e, a₁, w₁, hq₁, harr⟩ := h b (.inScope c :: k) cs hro hb hr
 cases e with
 | normal => exact ⟨.normal, a₁, w₁, hq₁, .head h0 stepR_scope' (StepsIn.trans harr (.one (fenced_calm hb hr rfl) stepR_inScope'))⟩
 | exit id =>
  have hx : exitTo id (.inScope c :: k) = exitTo id k := by simp [exitTo]
  exact ⟨.exit id, a₁, w₁, hq₁, fun k' hk => .head h0 stepR_scope' (harr.1 k' (by rw [hx]; exact hk)),
   fun hr' hk => let ⟨k₁, h1, h2⟩ := harr.2 hr' (by rw [hx]; exact hk); ⟨k₁, h1, .head h0 stepR_scope' h2⟩⟩
 | goto l => exact absurd hq₁ (hq l _ _)
 | ret => exact ⟨_, a₁, w₁, hq₁, .of_steps (.one h0 stepR_scope') harr⟩
 | panic ch => exact ⟨_, a₁, w₁, hq₁, .of_steps (.one h0 stepR_scope') harr⟩
 | outgrown => exact ⟨_, a₁, w₁, hq₁, .of_steps (.one h0 stepR_scope') harr⟩

def loopFrom (F : Fence) (n : Nat) (P : Program) (c : Code) (Q : Exit → Act → World → Prop) (a : Act) (w : World) : Prop :=
 ∀ (b : Frame) (k : List Item) (cs : List Frame), b.roundOf = F.round → F.fn b.fn → F.room (cs.length + 1 + n) →
  ∃ e a' w', Q e a' w' ∧ ArrivesIn (Machine.fenced P F) P (lone (b.atR a (.code c :: .inLoop c :: k)) cs w) b k cs e a' w'

theorem loopFrom_round {F : Fence} {n : Nat} {c : Code} {Q : Exit → Act → World → Prop} (h : c.wpIn F n P (Exit.then (fun a' w' => loopFrom F n P c Q a' w') Q) a w) : loopFrom F n P c Q a w := by
 intro b k cs hro hb hr
 obtain ⟨e, a₁, w₁, hq, harr⟩ := h b (.inLoop c :: k) cs hro hb hr
 cases e with
 | normal =>
  obtain ⟨e₂, a₂, w₂, hq₂, harr₂⟩ := hq b k cs hro hb hr
  exact ⟨e₂, a₂, w₂, hq₂, .of_steps (StepsIn.trans harr (.one (fenced_calm hb hr rfl) stepR_inLoop)) harr₂⟩
 | exit id => exact ⟨_, a₁, w₁, hq, .pass (x := .inLoop c) rfl (fun _ _ => .inl (by simp)) harr⟩
 | goto l => exact ⟨_, a₁, w₁, hq, .pass (x := .inLoop c) rfl (fun _ _ => .inl (by simp)) harr⟩
 | ret => exact ⟨_, a₁, w₁, hq, .pass (x := .inLoop c) rfl (fun _ _ => .inl (by simp)) harr⟩
 | panic ch => exact ⟨_, a₁, w₁, hq, .pass (x := .inLoop c) rfl (fun _ _ => .inl (by simp)) harr⟩
 | outgrown => exact ⟨_, a₁, w₁, hq, .pass (x := .inLoop c) rfl (fun _ _ => .inl (by simp)) harr⟩

theorem wpIn_loopFrom {F : Fence} {n : Nat} {c : Code} {Q : Exit → Act → World → Prop} (h : loopFrom F n P c Q a w) : (Code.loop c).wpIn F n P Q a w := by
 intro b k cs hro hb hr
 obtain ⟨e, a', w', hq, harr⟩ := h b k cs hro hb hr
 exact ⟨e, a', w', hq, .of_steps (.one (fenced_calm hb hr rfl) stepR_loop) harr⟩

theorem loop_sim {c : Code} {rc : RCode} (hc : cCode P C nt c = some rc) : ∀ (k : Nat), (∀ j, j < k → CodeSim P C (den E j)) → ∀ (f : Fr) (h : Heap) (e : RExit) (f' : Fr) (h' : Heap), den E k (.loop rc) f h = some (e, f', h') →
  ∀ (K : KW) (a : Act) (w : World), Rel P C ro nt lo K h f a w → loopFrom (Fw ro) 0 P c (CodePost P C ro nt lo K w e f' h') a w
 | 0, _, f, h, e, f', h', he, _, _, _, _ => by cases he
 | k + 1, hs, f, h, e, f', h', he, K, a, w, r => by
  simp only [den, stepC] at he
  refine loopFrom_round ?_
  split at he
  ·rename_i f1 h1 hd
   refine wpIn_mono (hs k (Nat.lt_succ_self k) c rc nt hc _ _ _ _ _ hd ro lo K a w r) ?_
   rintro x a1 w1 ⟨hx, K1, st1, r1⟩
   cases x <;> simp only [ExitOK] at hx
   have := loop_sim hc k (fun j hj => hs j (Nat.lt_succ_of_lt hj)) f1 h1 e f' h' he K1 a1 w1 r1
   intro b ks cs q1 q2 q3
   obtain ⟨e2, a2, w2, p2, p3⟩ := this b ks cs q1 q2 q3
   exact ⟨e2, a2, w2, p2.from st1, p3⟩
  ·rename_i hne
   refine wpIn_mono (hs k (Nat.lt_succ_self k) c rc nt hc _ _ _ _ _ he ro lo K a w r) ?_
   rintro x a1 w1 hp
   have hne' : e ≠ .normal := by
    intro e1; subst e1
    exact hne f' h' he
   cases x with
   | normal =>
    obtain ⟨hx, _⟩ := hp
    cases e <;> simp only [ExitOK] at hx
    exact absurd rfl hne'
   | _ => exact hp

theorem run_enterLoop_none (fn : FuncId) (tmps : Array Value) (ps : Array Tmp) (as bd : Code) (w : World) :
  (Instr.enterLoop fn tmps ps as bd none).run P w = .ok (w.heap.size + 1, [{ target := .collected w.heap.size, args := #[] }])
   { w with heap := (w.heap.push (.deferred (some []))).push (.loop { state := .ready, pending := none, fn, tmps, params := ps, assign := as, body := bd, defers := w.heap.size }) } := by
 simp [Instr.enterLoop]
 rfl

theorem run_enterLoop_some (fn : FuncId) (tmps : Array Value) (ps : Array Tmp) (as bd : Code) (w : World) {l : Nat} {lr : Loop} (hl : w.heap[l]? = some (.loop lr)) :
  (Instr.enterLoop fn tmps ps as bd (some l)).run P w = .ok (w.heap.size, [])
   { w with heap := w.heap.push (.loop { state := .ready, pending := none, fn, tmps, params := ps, assign := as, body := bd, defers := lr.defers }) } := by
 simp [Instr.enterLoop, run_getLoop hl]

theorem range_sim (hcs : CodeSim P C dC) (hE : EnvOK P C E) {g : Operand} {ps : Array Tmp} {as bd : Code} {g' : Opd} {ras rbd : RCode} (hg : cOpd C g = some g') (h1 : cCode P C nt as = some ras) (h2 : cCode P C nt bd = some rbd)
  (hps : ps.toList.all (· < nt) = true) {k : FuncId} {first cap : List PV} (hev : g'.ev f = .func k first cap) {u : PV} {h1' : Heap}
  (hcall : callP E dC (.func k first cap) [.yield h.n] (h.newLoop { state := .ready, pending := none, tmps := f, params := ps.toList, assign := ras, body := rbd }) = some (u, h1'))
  {r : LoopRec} (hl : h1'.loop h.n = some r) (hnb : r.state ≠ .busy) (rel : Rel P C ro nt lo K h f a w) :
  (Code.rangeFunc g ps as bd).wpIn (Fw ro) 0 P (CodePost P C ro nt lo K w (match r.pending with | none => .normal | some e => e) f (h1'.setLoop h.n { r with state := .exhausted })) a w := by
 refine wpIn_rangeFunc (fun fn _ => ?_)
 have hgv := opd_sim rel.sat rel.fr hg
 rw [hev] at hgv
 obtain ⟨b, o, hge, s1, s2, r1, r2⟩ := hgv.func_inv
 -- laying the record
 have key : ∀ (l : Nat) (mark : List Deferred) (w1 : World) (dn : Nat), (Instr.enterLoop fn a.tmps ps as bd ro).run P w = .ok (l, mark) w1 → SameEnv w w1 →
   w1.heap[l]? = some (.loop { state := .ready, pending := none, fn, tmps := a.tmps, params := ps, assign := as, body := bd, defers := dn }) → w.heap.size ≤ l → w.heap.size ≤ w1.heap.size →
   (∀ x, x < w.heap.size → w1.heap[x]? = w.heap[x]?) → Marks lo K w1 (mark ++ a.defers) → (∀ d ∈ mark, ∀ r, d.target = .collected r → r ≠ l) →
   ∃ (l : Nat) (mark : List Deferred) (w₁ : World) (d : Deferred) (w₁' : World) (f0 : FuncId) (args : Array Value) (w₂ : World),
    (Instr.enterLoop fn a.tmps ps as bd (Fw ro).round).run P w = .ok (l, mark) w₁ ∧ (resolve a.eval (rangeCall g l) 0).run P w₁ = .ok d w₁' ∧
    (∀ f', Target.leads P w₁' d.target d.args = some f' → (Fw ro).fn f') ∧ (invoke d.target d.args).run P w₁' = .ok (.enter f0 args) w₂ ∧ ((Fw ro).depth.isSome = true → 1 ≤ 0) ∧
    CallsIn (Fw ro) (0 - 1) P f0 args w₂ (rangePost (Fw ro) 0 P l (CodePost P C ro nt lo K w (match r.pending with | none => .normal | some e => e) f (h1'.setLoop h.n { r with state := .exhausted })) { a with defers := mark ++ a.defers }) := by
  intro l mark w1 dn hrun henv hlp hle hsz hold hmk hml
  have satp : Sat P C K h w1 := rel.sat.keep (fun b hb => hold b (rel.sat.fp_lt hb)) (fun b o v hv => by
   have h1 := rel.sat.im b o v hv
   have h2 := lt_of_cellAt h1
   unfold cellAt at h1 ⊢
   rw [hold b h2]; exact h1)
  have hnf : ¬ K.fp l := fun hb => Nat.lt_irrefl _ (Nat.lt_of_lt_of_le (rel.sat.fp_lt hb) hle)
  have lok : LoopOK P C K { state := .ready, pending := none, tmps := f, params := ps.toList, assign := ras, body := rbd } { state := .ready, pending := none, fn, tmps := a.tmps, params := ps, assign := as, body := bd, defers := dn } :=
   ⟨trivial, trivial, rfl, nt, rel.fr, h1, h2, fun t ht => by simpa using List.all_eq_true.1 hps t ht⟩
  obtain ⟨K1, k1, k2, k3, k4⟩ : ∃ K1 : KW, K.le K1 ∧ Sat P C K1 (h.newLoop { state := .ready, pending := none, tmps := f, params := ps.toList, assign := ras, body := rbd }) w1 ∧ (∀ x, K1.fp x → K.fp x ∨ x = l) ∧ K1.lp h.n = some l ∧ K1.im = K.im := by
   obtain ⟨q1, q2, q3, q4⟩ := satp.newLoop hlp hnf lok
   exact ⟨_, q1, q2, q3, q4, rfl⟩
  obtain ⟨k4, k5⟩ := k4
  have st1 : Step K w K1 w1 := ⟨henv, k1, hsz, fun x hx => (k3 x hx).imp id (fun e => by rw [e]; exact hle), fun x hx _ => hold x hx, fun b o _ _ => by rw [k5]⟩
  have hn1 : h.n < K1.n := by rw [k2.n]; exact Nat.lt_succ_self _
  have hyv : VR K1 (.yield h.n) (.func (.yield l) #[] #[]) := .yield h.n l hn1 k4
  have hgv1 : VR K1 (.func k first cap) (.func (.func k) b o) := by rw [hge] at hgv; exact hgv.mono k1
  obtain ⟨c1, c2⟩ := call_func hcs hE hcall (vs := #[.func (.yield l) #[] #[]]) k2 hgv1 ⟨rfl, fun i p v hp hv => by
   cases i with
   | zero => simp at hp hv; subst hp hv; exact hyv
   | succ i => simp at hp⟩
  refine ⟨l, mark, w1, { target := .fn (.func k) o, args := b ++ #[.func (.yield l) #[] #[]] }, w1, k, b ++ #[.func (.yield l) #[] #[]] ++ o, w1, hrun, ?_, fun _ _ => trivial, ?_, fun h => by simp [Fence.wide] at h, ?_⟩
  ·have hm : (#[Operand.const (.func (.yield l) #[] #[])] : Array Operand).map a.eval = #[.func (.yield l) #[] #[]] := by simp [Act.eval]
   simp only [resolve, rangeCall, hm, hge, Deferred.ofValue, Sem.run_pure]
  ·simp only [invoke]; exact run_callFunc c1 _ _
  ·refine CallsIn.mono c2 ?_
   rintro e w2 ⟨u', K2, rfl, hu, st2, s2'⟩
   -- the loop's end
   obtain ⟨b2, lr2, p1, p2, p3⟩ := s2'.lp h.n r hl
   have hb2 : b2 = l := by
    have := st2.le.lp h.n hn1
    rw [p1, k4] at this; exact Option.some.inj this
   subst hb2
   obtain ⟨z1, z2, z3⟩ := setHeap w2 b2 (.loop { lr2 with state := .exhausted }) (lt_of_heap p2)
   let w3 : World := { w2 with heap := w2.heap.setIfInBounds b2 (.loop { lr2 with state := .exhausted }) }
   have hnb2 : ¬ (lr2.state = LoopState.busy) := by
    have := p3.st
    intro hq
    rw [hq] at this
    cases hq2 : r.state <;> rw [hq2] at this <;> first | exact this.elim | exact (hnb hq2).elim
   have hend : (Instr.endLoop b2).run P w2 = .ok lr2.pending w3 := by
    simp [Instr.endLoop, run_getLoop p2, hnb2, setObj, Sem.run, p2, w3]
   have sat3 : Sat P C K2 (h1'.setLoop h.n { r with state := .exhausted }) w3 := s2'.setLoop hl p1 z1 z2 ⟨trivial, p3.pend, p3.params, p3.code⟩
   have st3 : Step K2 w2 K2 w3 := ⟨⟨rfl, rfl, rfl⟩, .refl K2, Nat.le_of_eq z3.symm, fun _ h => .inl h, fun x hx hn => z2 x (fun e => hn (e ▸ .inr (.inr ⟨h.n, p1⟩))), fun _ _ _ _ => rfl⟩
   have st13 : Step K w K2 w3 := (st1.trans st2).trans st3
   have hmk1 : Marks lo K1 w1 (mark ++ a.defers) := by
    obtain ⟨rs, m1, m2, m3⟩ := hmk
    refine ⟨rs, m1, m2, fun x hx => ?_⟩
    obtain ⟨y1, y2, y3⟩ := m3 x hx
    refine ⟨y1, y2, fun hf => (k3 x hf).elim y3 (fun e => ?_)⟩
    subst e; rw [hlp] at y2; cases y2
   have rel3 : Rel P C ro nt lo K2 (h1'.setLoop h.n { r with state := .exhausted }) f { a with defers := mark ++ a.defers } w3 :=
    ⟨sat3, rel.fr.mono st13.le, (hmk1.step st2).step st3, fun l' hl' => let ⟨id, h1, h2⟩ := rel.round l' hl'; ⟨id, Nat.lt_of_lt_of_le h1 st13.le.n, by rw [st13.le.lp id h1]; exact h2⟩, Nat.le_trans rel.lo st13.size⟩
   refine ⟨lr2.pending, w3, hend, ?_⟩
   have hp := p3.pend
   generalize h1'.setLoop h.n { r with state := .exhausted } = H at rel3 ⊢
   cases hpr : r.pending with
   | none =>
    rw [hpr] at hp
    cases hpl : lr2.pending with
    | none => exact ⟨trivial, K2, st13, rel3⟩
    | some c => rw [hpl] at hp; exact hp.elim
   | some e =>
    rw [hpr] at hp
    cases hpl : lr2.pending with
    | none => rw [hpl] at hp; cases e <;> exact hp.elim
    | some c =>
     rw [hpl] at hp
     cases e with
     | normal => cases c <;> exact hp.elim
     | ret =>
      cases c <;> first
       | exact hp.elim
       | exact wpIn_ret ⟨trivial, K2, st13, rel3⟩
     | exit i =>
      cases c <;> first
       | exact hp.elim
       | (simp only [PendOK] at hp; subst hp; exact wpIn_exit ⟨rfl, K2, st13, rel3⟩)
 cases ro with
 | none =>
  refine key (w.heap.size + 1) [{ target := .collected w.heap.size, args := #[] }] { w with heap := (w.heap.push (.deferred (some []))).push (.loop { state := .ready, pending := none, fn, tmps := a.tmps, params := ps, assign := as, body := bd, defers := w.heap.size }) } w.heap.size
   (run_enterLoop_none fn a.tmps ps as bd w) ⟨rfl, rfl, rfl⟩ (by rw [Array.getElem?_push, if_pos (by simp)]) (Nat.le_succ _) (by simp; omega) (fun x hx => by
    rw [getElem?_push_lt (by simp; omega), getElem?_push_lt hx]) ?_ (fun d hd r hr => by simp at hd; subst hd; cases hr; omega)
  obtain ⟨rs, m1, m2, m3⟩ := rel.marks
  refine ⟨w.heap.size :: rs, by simp [m1], List.nodup_cons.2 ⟨fun hm => ?_, m2⟩, fun x hx => ?_⟩
  ·obtain ⟨_, y2, _⟩ := m3 _ hm
   exact absurd (lt_of_heap y2) (Nat.lt_irrefl _)
  ·rcases List.mem_cons.1 hx with rfl | hx
   ·refine ⟨rel.lo, ?_, not_fp_new rel.sat⟩
    rw [getElem?_push_lt (by simp)]; simp
   ·obtain ⟨y1, y2, y3⟩ := m3 x hx
    have := lt_of_heap y2
    exact ⟨y1, by rw [getElem?_push_lt (by simp; omega), getElem?_push_lt this]; exact y2, y3⟩
 | some l0 =>
  obtain ⟨id, hid, hlp⟩ := rel.round l0 rfl
  have hx : ∃ lr, w.heap[l0]? = some (.loop lr) := by
   cases hq : h.loop id with
   | none => rw [rel.sat.lp0 id hq] at hlp; cases hlp
   | some r0 =>
    obtain ⟨b0, lr, q1, q2, _⟩ := rel.sat.lp id r0 hq
    rw [q1] at hlp; cases hlp
    exact ⟨lr, q2⟩
  obtain ⟨lr, hlr⟩ := hx
  refine key w.heap.size [] { w with heap := w.heap.push (.loop { state := .ready, pending := none, fn, tmps := a.tmps, params := ps, assign := as, body := bd, defers := lr.defers }) } lr.defers
   (run_enterLoop_some fn a.tmps ps as bd w hlr) ⟨rfl, rfl, rfl⟩ (by simp) (Nat.le_refl _) (by simp) (fun x hx => getElem?_push_lt hx) ?_ (fun d hd => by simp at hd)
  obtain ⟨rs, m1, m2, m3⟩ := rel.marks
  refine ⟨rs, m1, m2, fun x hx => ?_⟩
  obtain ⟨y1, y2, y3⟩ := m3 x hx
  exact ⟨y1, by rw [getElem?_push_lt (lt_of_heap y2)]; exact y2, y3⟩

theorem den_wf (E : Env) (hH : ∀ g args h r h', E.horc g args h = some (r, h') → WFle h h') : ∀ k, CodeWF (den E k)
 | 0 => fun rc f h e f' h' he => by cases he
 | k + 1 => fun rc f h e f' h' he => by
  have ih := den_wf E hH k
  cases rc with
  | skip => cases he; exact .refl h
  | exit => cases he; exact .refl h
  | ret => cases he; exact .refl h
  | region ops chk =>
   simp only [den, stepC] at he
   cases hr : evalOps E.orc (pureP E (den E k)) (callP E (den E k)) ops f h with
   | none => rw [hr] at he; cases he
   | some q =>
    obtain ⟨f1, h1⟩ := q
    rw [hr] at he
    simp only [Option.bind_some] at he
    split at he
    ·cases he
     obtain ⟨fs, hs, ps, a1, a2, a3, a4, a5⟩ := trace_ex ops f h _ _ hr
     have tr : Tr ops E.orc (pureP E (den E k)) (callP E (den E k)) fs hs ps := ⟨fun k x hx => (a5 k x hx).1, fun k x hx => (a5 k x hx).2⟩
     have := tr.wf (i := 0) (call_wf ih hH) ops.length (by omega)
     rw [Nat.zero_add, a2, a4] at this
     exact this
    ·cases he
  | seq a b =>
   simp only [den, stepC] at he
   split at he
   ·rename_i f1 h1 hd; exact (ih _ _ _ _ _ _ hd).trans (ih _ _ _ _ _ _ he)
   ·exact ih _ _ _ _ _ _ he
  | cond x a b =>
   simp only [den, stepC] at he
   split at he
   ·exact ih _ _ _ _ _ _ he
   ·exact ih _ _ _ _ _ _ he
   ·cases he
  | scope b => exact ih _ _ _ _ _ _ he
  | block id b =>
   simp only [den, stepC] at he
   split at he
   ·rename_i i f1 h1 hd
    cases he
    exact ih _ _ _ _ _ _ hd
   ·exact ih _ _ _ _ _ _ he
  | loop b =>
   simp only [den, stepC] at he
   split at he
   ·rename_i f1 h1 hd; exact (ih _ _ _ _ _ _ hd).trans (ih _ _ _ _ _ _ he)
   ·exact ih _ _ _ _ _ _ he
  | rangeFunc g ps as bd =>
   simp only [den, stepC] at he
   split at he
   ·split at he
    ·rename_i u h1 hc
     have w1 := call_wf ih hH _ _ _ _ _ hc
     cases hl : h1.loop h.n with
     | none => rw [hl] at he; cases he
     | some r =>
      rw [hl] at he
      simp only at he
      split at he
      ·cases he
      ·cases he
       exact ((wf_newLoop h _).trans w1).trans (wf_setLoop (by rw [hl]; simp) _)
    ·cases he
   ·cases he

theorem exitOK_goto {e : RExit} {l : Nat} : ¬ ExitOK e (.goto l) := by cases e <;> simp [ExitOK]

theorem den_sim (hE : EnvOK P C E) (horc : PureSim P C E.orc) (hm : P.follows .mixedOrders = true) : ∀ k, CodeSim P C (den E k) := by
 intro k
 induction k using Nat.strongRecOn with
 | _ k ihs =>
  cases k with
  | zero => intro c rc nt hc f h e f' h' he; cases he
  | succ k =>
   have ih := ihs k (Nat.lt_succ_self k)
   have hcall := call_sim ih hE
   have hpure := pure_sim ih hE
   have hwf := call_wf (E := E) (den_wf E hE.horc.wf k) hE.horc.wf
   intro c rc nt hc f h e f' h' he ro lo K a w r
   cases c with
   | skip => cases hc; cases he; exact wpIn_skip ⟨trivial, K, .refl K w, r⟩
   | label l => cases hc; cases he; exact wpIn_label ⟨trivial, K, .refl K w, r⟩
   | ret => cases hc; cases he; exact wpIn_ret ⟨trivial, K, .refl K w, r⟩
   | exit id => cases hc; cases he; exact wpIn_exit ⟨rfl, K, .refl K w, r⟩
   | goto => cases hc
   | refuse =>
    simp only [cCode] at hc
    cases hc
    simp [den, stepC, evalOps, chkOk, apart, Opd.ev, undefP] at he
   | scope b =>
    simp only [cCode, Option.map_eq_some_iff] at hc
    obtain ⟨rb, h1, rfl⟩ := hc
    exact wpIn_scope (fun l a w hq => exitOK_goto hq.1) (ih b rb nt h1 _ _ _ _ _ he ro lo K a w r)
   | region id ops draw =>
    simp only [cCode] at hc
    split at hc
    ·rename_i rs hrs
     split at hc
     ·rename_i hdraw
      split at hc
      ·rename_i hdok
       simp only [Option.map_eq_some_iff] at hc
       obtain ⟨chk, hchk, rfl⟩ := hc
       simp only [den, stepC] at he
       cases hr : evalOps E.orc (pureP E (den E k)) (callP E (den E k)) rs f h with
       | none => rw [hr] at he; cases he
       | some q =>
        obtain ⟨f1, h1⟩ := q
        rw [hr] at he
        simp only [Option.bind_some] at he
        split at he
        ·rename_i hok
         cases he
         subst hdraw
         have st0 : Step K w K { w with drawn := w.drawn + 1 } := Step.heap ⟨rfl, rfl, rfl⟩ rfl
         have r0 := r.step st0 (r.sat.heap (w' := { w with drawn := w.drawn + 1 }) rfl)
         obtain ⟨fs, hs, ps, a1, a2, a3, a4, a5⟩ := trace_ex rs f h _ _ hr
         have tr : Tr rs E.orc (pureP E (den E k)) (callP E (den E k)) fs hs ps := ⟨fun k x hx => (a5 k x hx).1, fun k x hx => (a5 k x hx).2⟩
         have hw0 : WF (hs 0) := by rw [a2]; exact ⟨r.sat.boxn, r.sat.liven, r.sat.lpn⟩
         have hgf : ∀ (n i : Nat), (Array.replicate n false).getD i false = false := fun n i => by
          simp only [Array.getD_eq_getD_getElem?, Array.getElem?_replicate]; split <;> rfl
         refine wpIn_region_any hm ?_
         refine any_wp (lo := lo) tr hrs (drawOk_spec hdok) hchk (by rw [a3]; exact hok) hcall hwf hpure horc hw0 ops.size _ (fs 0) 0 K a _ ⟨by simp, fun j o e hj => ?_, fun j x t hj => ?_, fun t _ => rfl, Nat.zero_le _, fun k x _ _ => ?_⟩ ?_ ?_ ?_
         ·rw [hgf] at hj; cases hj
         ·rw [hgf] at hj; cases hj
         ·rw [hgf]; simp
         ·exact Nat.le_trans List.countP_le_length (by simp)
         ·rw [a1, a2]; exact r0
         ·intro K' a' w' st rel
          rw [a3, a4] at rel
          exact ⟨trivial, K', st0.trans st, rel⟩
        ·cases he
      ·cases hc
     ·rename_i hdraw
      cases hc
      simp only [den, stepC] at he
      cases hr : evalOps E.orc (pureP E (den E k)) (callP E (den E k)) rs f h with
      | none => rw [hr] at he; cases he
      | some q =>
       obtain ⟨f1, h1⟩ := q
       rw [hr] at he
       simp only [Option.bind_some] at he
       split at he
       ·cases he
        have hd : draw = false := by simpa using hdraw
        subst hd
        refine wpIn_region ?_
        rw [List.range_eq_range']
        refine ops_wp hrs hcall hpure horc ops.size 0 K h f a w (by omega) r (by simpa using hr) (fun K' a' w' st rel => ⟨trivial, K', st, rel⟩)
       ·cases he
    ·cases hc
   | seq x y =>
    simp only [cCode] at hc
    split at hc
    ·rename_i rx ry h1 h2
     cases hc
     simp only [den, stepC] at he
     refine wpIn_seq ?_
     split at he
     ·rename_i f1 g1 hd
      refine wpIn_mono (ih x rx nt h1 _ _ _ _ _ hd ro lo K a w r) ?_
      rintro ex a1 w1 ⟨hx, K1, st1, r1⟩
      cases ex <;> simp only [ExitOK] at hx
      exact wpIn_mono (ih y ry nt h2 _ _ _ _ _ he ro lo K1 a1 w1 r1) (fun _ _ _ p => p.from st1)
     ·rename_i hne
      refine wpIn_mono (ih x rx nt h1 _ _ _ _ _ he ro lo K a w r) ?_
      rintro ex a1 w1 hp
      cases ex with
      | normal =>
       obtain ⟨hx, _⟩ := hp
       cases e <;> simp only [ExitOK] at hx
       exact absurd he (hne f' h')
      | _ => exact hp
    ·cases hc
   | cond x y z =>
    simp only [cCode] at hc
    split at hc
    ·rename_i x' ry rz h1 h2 h3
     cases hc
     simp only [den, stepC] at he
     have hv := opd_sim r.sat r.fr h1
     split at he
     ·rename_i hb
      rw [hb] at hv
      exact wpIn_cond_true hv.bool_inv (ih y ry nt h2 _ _ _ _ _ he ro lo K a w r)
     ·rename_i hb
      rw [hb] at hv
      exact wpIn_cond_false hv.bool_inv (ih z rz nt h3 _ _ _ _ _ he ro lo K a w r)
     ·cases he
    ·cases hc
   | block id b =>
    simp only [cCode, Option.map_eq_some_iff] at hc
    obtain ⟨rb, h1, rfl⟩ := hc
    simp only [den, stepC] at he
    refine wpIn_block ?_
    split at he
    ·rename_i i f1 g1 hd
     cases he
     refine wpIn_mono (ih b rb nt h1 _ _ _ _ _ hd ro lo K a w r) ?_
     rintro ex a1 w1 ⟨hx, K1, st1, r1⟩
     cases ex <;> simp only [ExitOK] at hx
     subst hx
     simp only [Exit.inBlock]
     split
     ·exact ⟨trivial, K1, st1, r1⟩
     ·exact ⟨rfl, K1, st1, r1⟩
    ·rename_i hne
     refine wpIn_mono (ih b rb nt h1 _ _ _ _ _ he ro lo K a w r) ?_
     rintro ex a1 w1 hp
     cases ex with
     | exit i =>
      obtain ⟨hx, _⟩ := hp
      cases e <;> simp only [ExitOK] at hx
      exact absurd he (hne _ f' h')
     | _ => exact hp
   | loop b =>
    simp only [cCode, Option.map_eq_some_iff] at hc
    obtain ⟨rb, h1, rfl⟩ := hc
    exact wpIn_loopFrom (loop_sim h1 (k + 1) (fun j hj => ihs j hj) f h e f' h' he K a w r)
   | rangeFunc g ps as bd =>
    simp only [cCode] at hc
    split at hc
    ·rename_i g' ras rbd h1 h2 h3
     split at hc
     ·rename_i hps
      cases hc
      simp only [den, stepC] at he
      split at he
      ·rename_i kf first cap hev
       split at he
       ·rename_i u h1' hcl
        cases hl : h1'.loop h.n with
        | none => rw [hl] at he; cases he
        | some rr =>
         rw [hl] at he
         simp only at he
         split at he
         ·cases he
         ·rename_i hnb
          cases he
          exact range_sim ih hE h1 h2 h3 hps hev hcl hl hnb r
       ·cases he
      ·cases he
     ·cases hc
    ·cases hc
end
end Go.Proofs.YtmngkcpobmhnoaaGreatDoor.Sim
/- Ranges over functions, and their rounds. -/
namespace Go.Proofs.YtmngkcpobmhnoaaGreatDoor.Sim
variable {E : Env} {f : Fr} {h : Heap}

def pendQ (κ : Kt) : Option RExit → K
 | none | some .normal => κ.N
 | some (.exit i) => κ.B i
 | some .ret => κ.R

def notBusy : LState → Bool
 | .busy => false
 | _ => true

theorem range_step {κ : Kt} {t : Blk κ} {g : Opd} {ps : List Nat} {as body : RCode} {k : FuncId} {first cap : List PV} (hg : g.ev f = .func k first cap)
  (hc : CallC E (.func k first cap) [.yield h.n] (h.newLoop { state := .ready, pending := none, tmps := f, params := ps, assign := as, body := body })
   (fun _ h' => ∃ r, h'.loop h.n = some r ∧ notBusy r.state = true ∧ pendQ κ r.pending f (h'.setLoop h.n { r with state := .exhausted }))) :
  Lq E (.rangeFunc g ps as body) κ t f h := by
 obtain ⟨j, v, h', h1, r, h2, h3, h4⟩ := hc
 have key : den E (j + 1) (.rangeFunc g ps as body) f h = some ((match r.pending with | none => .normal | some e => e), f, h'.setLoop h.n { r with state := .exhausted }) := by
  simp only [den, stepC, hg, h1, h2]
  cases hs : r.state <;> first | rfl | (rw [hs] at h3; cases h3)
 refine ⟨j + 1, _, f, _, key, ?_⟩
 cases hp : r.pending with
 | none => rw [hp] at h4; exact h4
 | some e => rw [hp] at h4; cases e <;> exact h4

theorem yield_step {l : Nat} {r : LoopRec} {args : List PV} {N : PV → Heap → Prop} (hl : h.loop l = some r) (hr : r.state = .ready) (ha : args.length = r.params.length)
  (hw : wp E r.assign (fun f1 h1 => ∃ r1, h1.loop l = some r1 ∧ r1.state = .ready ∧
   wp E r.body (fun _ h2 => ∃ r2, h2.loop l = some r2 ∧ N (.bool true) (h2.setLoop l { r2 with state := .ready, pending := none }))
    (fun i _ h2 => ∃ r2, h2.loop l = some r2 ∧ N (.bool false) (h2.setLoop l { r2 with state := .done, pending := some (.exit i) }))
    (fun _ h2 => ∃ r2, h2.loop l = some r2 ∧ N (.bool false) (h2.setLoop l { r2 with state := .done, pending := some .ret })) f1 (h1.setLoop l { r1 with state := .busy }))
   (fun _ _ _ => False) (fun _ _ => False) (putAll r.tmps r.params args) h) : CallC E (.yield l) args h N := by
 obtain ⟨k, e, f1, h1, a1, a2⟩ := wp_sound _ hw
 cases e with
 | exit i => exact a2.elim
 | ret => exact a2.elim
 | normal =>
  obtain ⟨r1, b1, b2, b3⟩ := a2
  obtain ⟨k2, e2, f2, h2, c1, c2⟩ := wp_sound _ b3
  have a1' := den_le (Nat.le_max_left k k2) _ _ _ _ a1
  have c1' := den_le (Nat.le_max_right k k2) _ _ _ _ c1
  cases e2 with
  | normal =>
   obtain ⟨r2, d1, d2⟩ := c2
   exact ⟨max k k2, _, _, by simp only [callP, hl, Option.bind_some, roundP, hr, if_pos ha, a1', b1, b2, c1', d1], d2⟩
  | exit i =>
   obtain ⟨r2, d1, d2⟩ := c2
   exact ⟨max k k2, _, _, by simp only [callP, hl, Option.bind_some, roundP, hr, if_pos ha, a1', b1, b2, c1', d1], d2⟩
  | ret =>
   obtain ⟨r2, d1, d2⟩ := c2
   exact ⟨max k k2, _, _, by simp only [callP, hl, Option.bind_some, roundP, hr, if_pos ha, a1', b1, b2, c1', d1], d2⟩

end Go.Proofs.YtmngkcpobmhnoaaGreatDoor.Sim
