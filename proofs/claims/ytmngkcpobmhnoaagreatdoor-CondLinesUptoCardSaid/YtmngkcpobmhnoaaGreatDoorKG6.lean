/- Printed functions, continued. -/
import Derived.Test.YtmngkcpobmhnoaaGreatDoorKG5
set_option linter.all false
set_option maxHeartbeats 4000000
set_option maxRecDepth 20000
namespace Go.Proofs.YtmngkcpobmhnoaaGreatDoor.Sim
theorem G_burinref05_parser_shift_ok {h1 : Heap} {b4 : Nat} {p_2 : T_burinref05_parser} {op_9 : Bytes} {a_10 : T_burinref05_Value} {b_11 : T_burinref05_Value} {live_12 : Bool} {o5 : Own} {e6 : Nat} {M7 : List (List PV)} {r13 : T_burinref05_Value} {r14 : T_burinref05_parser} (hx : G_burinref05_parser_shift p_2 op_9 a_10 b_11 live_12 = some (r13, r14)) (z19 : h1.box b4 = some [(.slice o5 e6 M7), (.int .i64 p_2.at_), (.bool p_2.ok_)]) (w20 : b4 < h1.n) (s8 : SlR 6 T_api_Tok.R o5 e6 p_2.l_ M7) : CallC E (.func 131 [] []) [(.ptr b4 0), (.str op_9), (.agg [(.int .u64 a_10.V_), (.bool a_10.U_)]), (.agg [(.int .u64 b_11.V_), (.bool b_11.U_)]), (.bool live_12)] h1 (fun v h21 => ∃ o15 e16 M17, v = (.agg [(.int .u64 r13.V_), (.bool r13.U_)]) ∧ h21.box b4 = some [(.slice o15 e16 M17), (.int .i64 r14.at_), (.bool r14.ok_)] ∧ FrB [b4] h1 h21 ∧ SlR 6 T_api_Tok.R o15 e16 r14.l_ M17) := by
 refine callE_ok fn_burinref05_parser_shift rfl ?_
 have hb := hx
 dsimp only [G_burinref05_parser_shift] at hb
 have X := And.intro z19 (s8.len)
 refine Tw ?_
 refine bq_if hb rfl (fun c28 hb => ?_) (fun c28 hb => ?_)
 ·have X := And.intro c28 X
  refine Tw ?_
  refine bq_if hb rfl (fun c29 hb => ?_) (fun c29 hb => ?_)
  ·have hb := Option.some.inj hb
   obtain ⟨e0, e1⟩ := Prod.mk.inj hb
   subst e0
   subst e1
   have X := And.intro c29 X
   refine Tw ?_
   exact endHI ⟨o5, e6, M7, rfl, Cw, Cf, s8⟩
  ·have hb := Option.some.inj hb
   obtain ⟨e0, e1⟩ := Prod.mk.inj hb
   subst e0
   subst e1
   have X := And.intro c29 X
   refine Tw ?_
   exact endHI ⟨o5, e6, M7, rfl, Cw, Cf, s8⟩
 ·have X := And.intro c28 X
  refine Tw ?_
  refine bq_if hb rfl (fun c34 hb => ?_) (fun c34 hb => ?_)
  ·have X := And.intro c34 X
   refine Tw ?_
   refine vq_shl hb (fun i35 hi35 hb => ?_)
   have hb := Option.some.inj hb
   obtain ⟨e0, e1⟩ := Prod.mk.inj hb
   subst e0
   subst e1
   refine Tw ?_
   exact endHI ⟨o5, e6, M7, rfl, Cw, Cf, s8⟩
  ·have X := And.intro c34 X
   refine Tw ?_
   refine bq_if hb rfl (fun c37 hb => ?_) (fun c37 hb => ?_)
   ·have X := And.intro c37 X
    refine Tw ?_
    refine vq_shr hb (fun i38 hi38 hb => ?_)
    have hb := Option.some.inj hb
    obtain ⟨e0, e1⟩ := Prod.mk.inj hb
    subst e0
    subst e1
    refine Tw ?_
    exact endHI ⟨o5, e6, M7, rfl, Cw, Cf, s8⟩
   ·have X := And.intro c37 X
    refine Tw ?_
    refine vq_shr hb (fun i40 hi40 hb => ?_)
    have hb := Option.some.inj hb
    obtain ⟨e0, e1⟩ := Prod.mk.inj hb
    subst e0
    subst e1
    refine Tw ?_
    exact endHI ⟨o5, e6, M7, rfl, Cw, Cf, s8⟩
def G_burinref05_compare (op_2 : Bytes) (a_3 : T_burinref05_Value) (b_4 : T_burinref05_Value) : Option (T_burinref05_Value) :=
 (
  if (!a_3.U_) then
   if (!b_4.U_) then
    some (decide ((IntKind.wrap .i64 a_3.V_) < (IntKind.wrap .i64 b_4.V_)))
   else
    some (decide (a_3.V_ < b_4.V_))
  else
   some (decide (a_3.V_ < b_4.V_))
 ) >>= fun less_17 =>
 if (op_2 == ([60] : Bytes)) then
  G_burinref05_truth less_17 >>= fun r34 =>
  some r34
 else
  if (op_2 == ([62] : Bytes)) then
   if (!less_17) then
    G_burinref05_truth (!(a_3.V_ == b_4.V_)) >>= fun r39 =>
    some r39
   else
    G_burinref05_truth false >>= fun r42 =>
    some r42
  else
   if (op_2 == ([60, 61] : Bytes)) then
    if less_17 then
     G_burinref05_truth true >>= fun r47 =>
     some r47
    else
     G_burinref05_truth (a_3.V_ == b_4.V_) >>= fun r50 =>
     some r50
   else
    if (op_2 == ([62, 61] : Bytes)) then
     G_burinref05_truth (!less_17) >>= fun r54 =>
     some r54
    else
     if (op_2 == ([61, 61] : Bytes)) then
      G_burinref05_truth (a_3.V_ == b_4.V_) >>= fun r58 =>
      some r58
     else
      G_burinref05_truth (!(a_3.V_ == b_4.V_)) >>= fun r61 =>
      some r61
theorem G_burinref05_compare_ok {op_2 : Bytes} {a_3 : T_burinref05_Value} {b_4 : T_burinref05_Value} {r5 : T_burinref05_Value} (hx : G_burinref05_compare op_2 a_3 b_4 = some r5) : PureE E 132 [(.str op_2), (.agg [(.int .u64 a_3.V_), (.bool a_3.U_)]), (.agg [(.int .u64 b_4.V_), (.bool b_4.U_)])] (fun v => v = (.agg [(.int .u64 r5.V_), (.bool r5.U_)])) := by
 refine pureE_ok fn_burinref05_compare rfl ?_
 have hb := hx
 dsimp only [G_burinref05_compare] at hb
 have X := True.intro
 refine Tw ?_
 refine bnd1 hb (fun j24 hj hb => ?_)
 refine wq_join (fun Z => ∀ (f18 : Fr) (h19 : Heap) (less_17 : Bool), less_17 = j24 → (f18 0 = (.str op_2) ∧ f18 4 = (.ptr 0 0) ∧ f18 5 = (.ptr 1 0) ∧ f18 6 = (.ptr 2 0) ∧ f18 7 = (.bool less_17) ∧ h19.box 0 = some [(.int .u64 a_3.V_), (.bool a_3.U_)] ∧ h19.box 1 = some [(.int .u64 b_4.V_), (.bool b_4.U_)] ∧ h19.box 2 = some [(.int .u64 (0 : Int)), (.bool false)]) → (0 < 1 ∧ 1 < 2 ∧ 2 < h19.n) → Z f18 h19) (fun Z hX14 => ?_) ?_
 ·have hr13 := hb
  clear hb
  have hb := hj
  clear hj
  refine wq_def J_burinref05_compare_1.eq_1 ?_
  refine Tw ?_
  refine Tw ?_
  refine bq_if hb rfl (fun c15 hb => ?_) (fun c15 hb => ?_)
  ·have X := And.intro c15 X
   refine Tw ?_
   refine bq_if hb rfl (fun c16 hb => ?_) (fun c16 hb => ?_)
   ·have hb := Option.some.inj hb
    subst hb
    have X := And.intro c16 X
    refine Tw ?_
    exact hX14 _ _ (decide ((IntKind.wrap .i64 a_3.V_) < (IntKind.wrap .i64 b_4.V_))) rfl Cw Cn
   ·have hb := Option.some.inj hb
    subst hb
    have X := And.intro c16 X
    refine Tw ?_
    exact hX14 _ _ (decide (a_3.V_ < b_4.V_)) rfl Cw Cn
  ·have hb := Option.some.inj hb
   subst hb
   have X := And.intro c15 X
   refine Tw ?_
   exact hX14 _ _ (decide (a_3.V_ < b_4.V_)) rfl Cw Cn
 ·intro f18 h19 less_17 ej Y20 Y22
  subst ej
  try dsimp only at hb
  have X := And.intro Y20 X
  refine Tw ?_
  refine bq_if hb rfl (fun c33 hb => ?_) (fun c33 hb => ?_)
  ·have X := And.intro c33 X
   refine Tw ?_
   refine bnd1 hb (fun r34 h35 hb => ?_)
   refine pq_eq (G_burinref05_truth_ok h35) ?_
   have hb := Option.some.inj hb
   subst hb
   refine Tw ?_
   exact endI rfl
  ·have X := And.intro c33 X
   refine Tw ?_
   refine bq_if hb rfl (fun c37 hb => ?_) (fun c37 hb => ?_)
   ·have X := And.intro c37 X
    refine Tw ?_
    refine bq_if hb rfl (fun c38 hb => ?_) (fun c38 hb => ?_)
    ·have X := And.intro c38 X
     refine Tw ?_
     refine bnd1 hb (fun r39 h40 hb => ?_)
     refine pq_eq (G_burinref05_truth_ok h40) ?_
     have hb := Option.some.inj hb
     subst hb
     refine Tw ?_
     exact endI rfl
    ·have X := And.intro c38 X
     refine Tw ?_
     refine bnd1 hb (fun r42 h43 hb => ?_)
     refine pq_eq (G_burinref05_truth_ok h43) ?_
     have hb := Option.some.inj hb
     subst hb
     refine Tw ?_
     exact endI rfl
   ·have X := And.intro c37 X
    refine Tw ?_
    refine bq_if hb rfl (fun c45 hb => ?_) (fun c45 hb => ?_)
    ·have X := And.intro c45 X
     refine Tw ?_
     refine bq_if hb rfl (fun c46 hb => ?_) (fun c46 hb => ?_)
     ·have X := And.intro c46 X
      refine Tw ?_
      refine bnd1 hb (fun r47 h48 hb => ?_)
      refine pq_eq (G_burinref05_truth_ok h48) ?_
      have hb := Option.some.inj hb
      subst hb
      refine Tw ?_
      exact endI rfl
     ·have X := And.intro c46 X
      refine Tw ?_
      refine bnd1 hb (fun r50 h51 hb => ?_)
      refine pq_eq (G_burinref05_truth_ok h51) ?_
      have hb := Option.some.inj hb
      subst hb
      refine Tw ?_
      exact endI rfl
    ·have X := And.intro c45 X
     refine Tw ?_
     refine bq_if hb rfl (fun c53 hb => ?_) (fun c53 hb => ?_)
     ·have X := And.intro c53 X
      refine Tw ?_
      refine bnd1 hb (fun r54 h55 hb => ?_)
      refine pq_eq (G_burinref05_truth_ok h55) ?_
      have hb := Option.some.inj hb
      subst hb
      refine Tw ?_
      exact endI rfl
     ·have X := And.intro c53 X
      refine Tw ?_
      refine bq_if hb rfl (fun c57 hb => ?_) (fun c57 hb => ?_)
      ·have X := And.intro c57 X
       refine Tw ?_
       refine bnd1 hb (fun r58 h59 hb => ?_)
       refine pq_eq (G_burinref05_truth_ok h59) ?_
       have hb := Option.some.inj hb
       subst hb
       refine Tw ?_
       exact endI rfl
      ·have X := And.intro c57 X
       refine Tw ?_
       refine bnd1 hb (fun r61 h62 hb => ?_)
       refine pq_eq (G_burinref05_truth_ok h62) ?_
       have hb := Option.some.inj hb
       subst hb
       refine Tw ?_
       exact endI rfl
def G_burinref05_parser_apply (p_2 : T_burinref05_parser) (op_9 : Bytes) (a_10 : T_burinref05_Value) (b_11 : T_burinref05_Value) (live_12 : Bool) : Option (T_burinref05_Value × T_burinref05_parser) :=
 (
  if a_10.U_ then
   some (true, true)
  else
   some (b_11.U_, false)
 ) >>= fun (u_32, v38) =>
 if (op_9 == ([42] : Bytes)) then
  some ((T_burinref05_Value.mk (IntKind.wrap .u64 (a_10.V_ * b_11.V_)) u_32), p_2)
 else
  (
   if (op_9 == ([47] : Bytes)) then
    some true
   else
    some (op_9 == ([37] : Bytes))
  ) >>= fun v59 =>
  if v59 then
   G_burinref05_parser_divide p_2 op_9 (T_burinref05_Value.mk a_10.V_ v38) b_11 live_12 >>= fun (r76, p77) =>
   some (r76, p77)
  else
   if (op_9 == ([43] : Bytes)) then
    some ((T_burinref05_Value.mk (IntKind.wrap .u64 (a_10.V_ + b_11.V_)) u_32), p_2)
   else
    if (op_9 == ([45] : Bytes)) then
     some ((T_burinref05_Value.mk (IntKind.wrap .u64 (a_10.V_ - b_11.V_)) u_32), p_2)
    else
     (
      if (op_9 == ([60, 60] : Bytes)) then
       some true
      else
       some (op_9 == ([62, 62] : Bytes))
     ) >>= fun v99 =>
     if v99 then
      G_burinref05_parser_shift p_2 op_9 (T_burinref05_Value.mk a_10.V_ v38) b_11 live_12 >>= fun (r116, p117) =>
      some (r116, p117)
     else
      if (op_9 == ([38] : Bytes)) then
       some ((T_burinref05_Value.mk (band .u64 a_10.V_ b_11.V_) u_32), p_2)
      else
       if (op_9 == ([94] : Bytes)) then
        some ((T_burinref05_Value.mk (bxor .u64 a_10.V_ b_11.V_) u_32), p_2)
       else
        if (op_9 == ([124] : Bytes)) then
         some ((T_burinref05_Value.mk (bor .u64 a_10.V_ b_11.V_) u_32), p_2)
        else
         G_burinref05_compare op_9 (T_burinref05_Value.mk a_10.V_ v38) b_11 >>= fun r137 =>
         some (r137, p_2)
theorem G_burinref05_parser_apply_ok {h1 : Heap} {b4 : Nat} {p_2 : T_burinref05_parser} {op_9 : Bytes} {a_10 : T_burinref05_Value} {b_11 : T_burinref05_Value} {live_12 : Bool} {o5 : Own} {e6 : Nat} {M7 : List (List PV)} {r13 : T_burinref05_Value} {r14 : T_burinref05_parser} (hx : G_burinref05_parser_apply p_2 op_9 a_10 b_11 live_12 = some (r13, r14)) (z19 : h1.box b4 = some [(.slice o5 e6 M7), (.int .i64 p_2.at_), (.bool p_2.ok_)]) (w20 : b4 < h1.n) (s8 : SlR 6 T_api_Tok.R o5 e6 p_2.l_ M7) : CallC E (.func 94 [] []) [(.ptr b4 0), (.str op_9), (.agg [(.int .u64 a_10.V_), (.bool a_10.U_)]), (.agg [(.int .u64 b_11.V_), (.bool b_11.U_)]), (.bool live_12)] h1 (fun v h21 => ∃ o15 e16 M17, v = (.agg [(.int .u64 r13.V_), (.bool r13.U_)]) ∧ h21.box b4 = some [(.slice o15 e16 M17), (.int .i64 r14.at_), (.bool r14.ok_)] ∧ FrB [b4] h1 h21 ∧ SlR 6 T_api_Tok.R o15 e16 r14.l_ M17) := by
 refine callE_ok fn_burinref05_parser_apply rfl ?_
 have hb := hx
 dsimp only [G_burinref05_parser_apply] at hb
 have X := And.intro z19 (s8.len)
 refine Tw ?_
 refine bnd1 hb (fun j40 hj hb => ?_)
 refine wq_join (fun Z => ∀ (f33 : Fr) (h34 : Heap) (u_32 : Bool) (v38 : Bool), (u_32, v38) = j40 → (f33 0 = (.ptr b4 0) ∧ f33 1 = (.str op_9) ∧ f33 4 = (.bool live_12) ∧ f33 7 = (.ptr h1.n 0) ∧ f33 8 = (.ptr (h1.n + 1) 0) ∧ f33 10 = (.ptr (h1.n + 1 + 1) 0) ∧ f33 11 = (.bool u_32) ∧ h34.box b4 = some [(.slice o5 e6 M7), (.int .i64 p_2.at_), (.bool p_2.ok_)] ∧ h34.box h1.n = some [(.int .u64 a_10.V_), (.bool v38)] ∧ h34.box (h1.n + 1) = some [(.int .u64 b_11.V_), (.bool b_11.U_)] ∧ h34.box (h1.n + 1 + 1) = some [(.int .u64 (0 : Int)), (.bool false)] ∧ FrB [b4] h1 h34) → (b4 < h1.n ∧ h1.n ≤ h1.n ∧ h1.n < (h1.n + 1) ∧ (h1.n + 1) < (h1.n + 1 + 1) ∧ (h1.n + 1 + 1) < h34.n) → Z f33 h34) (fun Z hX30 => ?_) ?_
 ·have hr29 := hb
  clear hb
  have hb := hj
  clear hj
  refine wq_def J_burinref05_parser_apply_1.eq_1 ?_
  refine Tw ?_
  refine Tw ?_
  refine bq_if hb rfl (fun c31 hb => ?_) (fun c31 hb => ?_)
  ·have hb := Option.some.inj hb
   subst hb
   have X := And.intro c31 X
   refine Tw ?_
   exact hX30 _ _ true true rfl Cf Cn
  ·have hb := Option.some.inj hb
   subst hb
   have X := And.intro c31 X
   refine Tw ?_
   exact hX30 _ _ b_11.U_ false rfl Cf Cn
 ·intro f33 h34 u_32 v38 ej Y35 Y37
  subst ej
  try dsimp only at hb
  have X := And.intro Y35 X
  refine Tw ?_
  refine bq_if hb rfl (fun c53 hb => ?_) (fun c53 hb => ?_)
  ·have hb := Option.some.inj hb
   obtain ⟨e0, e1⟩ := Prod.mk.inj hb
   subst e0
   subst e1
   have X := And.intro c53 X
   refine Tw ?_
   exact endHI ⟨o5, e6, M7, rfl, Cw, Cf, s8⟩
  ·have X := And.intro c53 X
   refine Tw ?_
   refine bnd1 hb (fun j65 hj hb => ?_)
   refine wq_joinF (fun Z => ∀ (f60 : Fr) (v59 : Bool), v59 = j65 → (f60 0 = (.ptr b4 0) ∧ f60 1 = (.str op_9) ∧ f60 4 = (.bool live_12) ∧ f60 7 = (.ptr h1.n 0) ∧ f60 8 = (.ptr (h1.n + 1) 0) ∧ f60 10 = (.ptr (h1.n + 1 + 1) 0) ∧ f60 11 = (.bool u_32) ∧ f60 18 = (.str op_9) ∧ f60 28 = (.bool v59)) → Z f60) (fun Z hX57 => ?_) ?_
   ·have hr56 := hb
    clear hb
    have hb := hj
    clear hj
    refine wq_def J_burinref05_parser_apply_2.eq_1 ?_
    refine Tw ?_
    refine Tw ?_
    refine bq_if hb rfl (fun c58 hb => ?_) (fun c58 hb => ?_)
    ·have hb := Option.some.inj hb
     subst hb
     have X := And.intro c58 X
     refine Tw ?_
     exact hX57 _ true rfl Cf
    ·have hb := Option.some.inj hb
     subst hb
     have X := And.intro c58 X
     refine Tw ?_
     exact hX57 _ (op_9 == ([37] : Bytes)) rfl Cf
   ·intro f60 v59 ej Y62
    subst ej
    try dsimp only at hb
    have X := And.intro Y62 X
    refine Tw ?_
    refine bq_if hb rfl (fun c75 hb => ?_) (fun c75 hb => ?_)
    ·have X := And.intro c75 X
     refine Tw ?_
     refine bnd2 hb (fun r76 p77 h82 hb => ?_)
     try dsimp only at hb
     refine fq_mono1 (G_burinref05_parser_divide_ok h82 Cw Cn s8) (fun o78 e79 M80 h83 S90 => ?_)
     have z86 := S90.1
     have F84 := S90.2.1
     have s81 := S90.2.2
     have q85 := F84.n
     try simp only [HN] at q85
     have F87 : FrB [b4] h1 h83 := FrB.call Cf F84 (by intro j hj; simp only [List.mem_cons, List.not_mem_nil, or_false] at hj; first | (subst hj; left; simp; done) | (right; omega))
     have hb := Option.some.inj hb
     obtain ⟨e0, e1⟩ := Prod.mk.inj hb
     subst e0
     subst e1
     have X := And.intro z86 (And.intro F84.box1 (And.intro F84.loop (And.intro F84.bty (And.intro F87 (And.intro s81.len X)))))
     refine Tw ?_
     exact endHI ⟨o78, e79, M80, rfl, Cw, Cf, s81⟩
    ·have X := And.intro c75 X
     refine Tw ?_
     refine bq_if hb rfl (fun c91 hb => ?_) (fun c91 hb => ?_)
     ·have hb := Option.some.inj hb
      obtain ⟨e0, e1⟩ := Prod.mk.inj hb
      subst e0
      subst e1
      have X := And.intro c91 X
      refine Tw ?_
      exact endHI ⟨o5, e6, M7, rfl, Cw, Cf, s8⟩
     ·have X := And.intro c91 X
      refine Tw ?_
      refine bq_if hb rfl (fun c93 hb => ?_) (fun c93 hb => ?_)
      ·have hb := Option.some.inj hb
       obtain ⟨e0, e1⟩ := Prod.mk.inj hb
       subst e0
       subst e1
       have X := And.intro c93 X
       refine Tw ?_
       exact endHI ⟨o5, e6, M7, rfl, Cw, Cf, s8⟩
      ·have X := And.intro c93 X
       refine Tw ?_
       refine bnd1 hb (fun j105 hj hb => ?_)
       refine wq_joinF (fun Z => ∀ (f100 : Fr) (v99 : Bool), v99 = j105 → (f100 0 = (.ptr b4 0) ∧ f100 1 = (.str op_9) ∧ f100 4 = (.bool live_12) ∧ f100 7 = (.ptr h1.n 0) ∧ f100 8 = (.ptr (h1.n + 1) 0) ∧ f100 10 = (.ptr (h1.n + 1 + 1) 0) ∧ f100 11 = (.bool u_32) ∧ f100 18 = (.str op_9) ∧ f100 55 = (.bool v99)) → Z f100) (fun Z hX97 => ?_) ?_
       ·have hr96 := hb
        clear hb
        have hb := hj
        clear hj
        refine wq_def J_burinref05_parser_apply_3.eq_1 ?_
        refine Tw ?_
        refine Tw ?_
        refine bq_if hb rfl (fun c98 hb => ?_) (fun c98 hb => ?_)
        ·have hb := Option.some.inj hb
         subst hb
         have X := And.intro c98 X
         refine Tw ?_
         exact hX97 _ true rfl Cf
        ·have hb := Option.some.inj hb
         subst hb
         have X := And.intro c98 X
         refine Tw ?_
         exact hX97 _ (op_9 == ([62, 62] : Bytes)) rfl Cf
       ·intro f100 v99 ej Y102
        subst ej
        try dsimp only at hb
        have X := And.intro Y102 X
        refine Tw ?_
        refine bq_if hb rfl (fun c115 hb => ?_) (fun c115 hb => ?_)
        ·have X := And.intro c115 X
         refine Tw ?_
         refine bnd2 hb (fun r116 p117 h122 hb => ?_)
         try dsimp only at hb
         refine fq_mono1 (G_burinref05_parser_shift_ok h122 Cw Cn s8) (fun o118 e119 M120 h123 S130 => ?_)
         have z126 := S130.1
         have F124 := S130.2.1
         have s121 := S130.2.2
         have q125 := F124.n
         try simp only [HN] at q125
         have F127 : FrB [b4] h1 h123 := FrB.call Cf F124 (by intro j hj; simp only [List.mem_cons, List.not_mem_nil, or_false] at hj; first | (subst hj; left; simp; done) | (right; omega))
         have hb := Option.some.inj hb
         obtain ⟨e0, e1⟩ := Prod.mk.inj hb
         subst e0
         subst e1
         have X := And.intro z126 (And.intro F124.box1 (And.intro F124.loop (And.intro F124.bty (And.intro F127 (And.intro s121.len X)))))
         refine Tw ?_
         exact endHI ⟨o118, e119, M120, rfl, Cw, Cf, s121⟩
        ·have X := And.intro c115 X
         refine Tw ?_
         refine bq_if hb rfl (fun c131 hb => ?_) (fun c131 hb => ?_)
         ·have hb := Option.some.inj hb
          obtain ⟨e0, e1⟩ := Prod.mk.inj hb
          subst e0
          subst e1
          have X := And.intro c131 X
          refine Tw ?_
          exact endHI ⟨o5, e6, M7, rfl, Cw, Cf, s8⟩
         ·have X := And.intro c131 X
          refine Tw ?_
          refine bq_if hb rfl (fun c133 hb => ?_) (fun c133 hb => ?_)
          ·have hb := Option.some.inj hb
           obtain ⟨e0, e1⟩ := Prod.mk.inj hb
           subst e0
           subst e1
           have X := And.intro c133 X
           refine Tw ?_
           exact endHI ⟨o5, e6, M7, rfl, Cw, Cf, s8⟩
          ·have X := And.intro c133 X
           refine Tw ?_
           refine bq_if hb rfl (fun c135 hb => ?_) (fun c135 hb => ?_)
           ·have hb := Option.some.inj hb
            obtain ⟨e0, e1⟩ := Prod.mk.inj hb
            subst e0
            subst e1
            have X := And.intro c135 X
            refine Tw ?_
            exact endHI ⟨o5, e6, M7, rfl, Cw, Cf, s8⟩
           ·have X := And.intro c135 X
            refine Tw ?_
            refine bnd1 hb (fun r137 h138 hb => ?_)
            refine pq_eq (G_burinref05_compare_ok h138) ?_
            have hb := Option.some.inj hb
            obtain ⟨e0, e1⟩ := Prod.mk.inj hb
            subst e0
            subst e1
            refine Tw ?_
            exact endHI ⟨o5, e6, M7, rfl, Cw, Cf, s8⟩
def G_burinref05_parser_chain_L1 (F : Rec_burinref05_parser_choice) (least_38 : Int) : Bool × List T_api_Tok × Int × Bool × Int × Bool → Option ((Bool × List T_api_Tok × Int × Bool × Int × Bool) ⊕ (Ex2 (List T_api_Tok × Int × Bool × Int × Bool) (List T_api_Tok × Int × Bool × Int × Bool × Int × Bool))) := fun (live_39, v46, v51, v52, v57, v58) =>
 (
  if v52 then
   if (decide (v51 < ((List.length v46 : Nat) : Int))) then
    idx v46 v51 >>= fun x75 =>
    if (x75.Kind_ == (5 : Int)) then
     some (Ex2.b ())
    else
     some (Ex2.a (Sum.inr (Ex2.a (v46, v51, true, v57, v58))))
   else
    some (Ex2.a (Sum.inr (Ex2.a (v46, v51, true, v57, v58))))
  else
   some (Ex2.a (Sum.inr (Ex2.a (v46, v51, false, v57, v58))))
 ) >>= fun j86 => match j86 with
  | .a q => some q
  | .b () =>
   idx v46 v51 >>= fun x92 =>
   G_burinref05_level x92.S_ >>= fun r94 =>
   (
    if (r94 == (0 : Int)) then
     some (Ex2.a (Sum.inr (Ex2.b (v46, v51, v52, v57, v58, v57, v58))))
    else
     if (decide (r94 < least_38)) then
      some (Ex2.a (Sum.inr (Ex2.b (v46, v51, v52, v57, v58, v57, v58))))
     else
      some (Ex2.b ())
   ) >>= fun j110 => match j110 with
    | .a q => some q
    | .b () =>
     if (x92.S_ == ([38, 38] : Bytes)) then
      (
       if live_39 then
        F.burinref05_parser_chain (T_burinref05_parser.mk v46 (IntKind.wrap .i64 (v51 + (1 : Int))) v52) (IntKind.wrap .i64 (r94 + (1 : Int))) (!(v57 == (0 : Int))) >>= fun (r124, p125) =>
        some (true, p125.l_, p125.at_, p125.ok_, r124.V_, r124.U_)
       else
        F.burinref05_parser_chain (T_burinref05_parser.mk v46 (IntKind.wrap .i64 (v51 + (1 : Int))) v52) (IntKind.wrap .i64 (r94 + (1 : Int))) false >>= fun (r141, p142) =>
        some (false, p142.l_, p142.at_, p142.ok_, r141.V_, r141.U_)
      ) >>= fun (live_157, v163, v168, v169, v171, v172) =>
      if (!(v57 == (0 : Int))) then
       G_burinref05_truth (!(v171 == (0 : Int))) >>= fun r187 =>
       some (Sum.inl (live_157, v163, v168, v169, r187.V_, r187.U_))
      else
       G_burinref05_truth false >>= fun r190 =>
       some (Sum.inl (live_157, v163, v168, v169, r190.V_, r190.U_))
     else
      if (x92.S_ == ([124, 124] : Bytes)) then
       (
        if live_39 then
         F.burinref05_parser_chain (T_burinref05_parser.mk v46 (IntKind.wrap .i64 (v51 + (1 : Int))) v52) (IntKind.wrap .i64 (r94 + (1 : Int))) (v57 == (0 : Int)) >>= fun (r198, p199) =>
         some (true, p199.l_, p199.at_, p199.ok_, r198.V_, r198.U_)
        else
         F.burinref05_parser_chain (T_burinref05_parser.mk v46 (IntKind.wrap .i64 (v51 + (1 : Int))) v52) (IntKind.wrap .i64 (r94 + (1 : Int))) false >>= fun (r215, p216) =>
         some (false, p216.l_, p216.at_, p216.ok_, r215.V_, r215.U_)
       ) >>= fun (live_231, v237, v242, v243, v245, v246) =>
       if (!(v57 == (0 : Int))) then
        G_burinref05_truth true >>= fun r261 =>
        some (Sum.inl (live_231, v237, v242, v243, r261.V_, r261.U_))
       else
        G_burinref05_truth (!(v245 == (0 : Int))) >>= fun r264 =>
        some (Sum.inl (live_231, v237, v242, v243, r264.V_, r264.U_))
      else
       F.burinref05_parser_chain (T_burinref05_parser.mk v46 (IntKind.wrap .i64 (v51 + (1 : Int))) v52) (IntKind.wrap .i64 (r94 + (1 : Int))) live_39 >>= fun (r267, p268) =>
       G_burinref05_parser_apply p268 x92.S_ (T_burinref05_Value.mk v57 v58) r267 live_39 >>= fun (r283, p284) =>
       some (Sum.inl (live_39, p284.l_, p284.at_, p284.ok_, r283.V_, r283.U_))
theorem G_burinref05_parser_chain_L1_ok {F : Rec_burinref05_parser_choice} (hF : Rec_burinref05_parser_choice.OK F) {κ : Kt} {t : Blk κ} {least_38 : Int} {v54 : Int} {v55 : Bool} {b45 : Nat} {b53 : Nat} {b56 : Nat} {h1 : Heap} (live_39 : Bool) (v46 : List T_api_Tok) (v51 : Int) (v52 : Bool) (v57 : Int) (v58 : Bool) (x : Ex2 (List T_api_Tok × Int × Bool × Int × Bool) (List T_api_Tok × Int × Bool × Int × Bool × Int × Bool)) (hx : loopO (G_burinref05_parser_chain_L1 F least_38) (live_39, v46, v51, v52, v57, v58) = some x) : ∀ (f40 : Fr) (h41 : Heap) (o47 : Own) (e48 : Nat) (M49 : List (List PV)), (f40 0 = (.ptr b45 0) ∧ f40 1 = (.int .i64 least_38) ∧ f40 2 = (.bool live_39) ∧ f40 6 = (.ptr b53 0) ∧ f40 7 = (.ptr b56 0)) → (h41.box b45 = some [(.slice o47 e48 M49), (.int .i64 v51), (.bool v52)] ∧ h41.box b53 = some [(.int .u64 v54), (.bool v55)] ∧ h41.box b56 = some [(.int .u64 v57), (.bool v58)] ∧ FrB [b45] h1 h41) → (b45 < h1.n ∧ h1.n ≤ b53 ∧ b53 < b56 ∧ b56 < h41.n) → SlR 6 T_api_Tok.R o47 e48 v46 M49 → (∀ (f299 : Fr) (h300 : Heap) (v304 : List T_api_Tok) (v309 : Int) (v310 : Bool) (v311 : Int) (v312 : Bool) (o305 : Own) (e306 : Nat) (M307 : List (List PV)), Ex2.a (v304, v309, v310, v311, v312) = x → (f299 6 = (.ptr b53 0) ∧ f299 7 = (.ptr b56 0) ∧ h300.box b45 = some [(.slice o305 e306 M307), (.int .i64 v309), (.bool v310)] ∧ h300.box b53 = some [(.int .u64 v54), (.bool v55)] ∧ h300.box b56 = some [(.int .u64 v311), (.bool v312)] ∧ FrB [b45] h1 h300) → (b45 < h1.n ∧ h1.n ≤ b53 ∧ b53 < b56 ∧ b56 < h300.n) → SlR 6 T_api_Tok.R o305 e306 v304 M307 → κ.B 0 f299 h300) → (∀ (f314 : Fr) (h315 : Heap) (v319 : List T_api_Tok) (v324 : Int) (v325 : Bool) (v326 : Int) (v327 : Bool) (v328 : Int) (v329 : Bool) (o320 : Own) (e321 : Nat) (M322 : List (List PV)), Ex2.b (v319, v324, v325, v326, v327, v328, v329) = x → (f314 6 = (.ptr b53 0) ∧ h315.box b45 = some [(.slice o320 e321 M322), (.int .i64 v324), (.bool v325)] ∧ h315.box b53 = some [(.int .u64 v326), (.bool v327)] ∧ h315.box b56 = some [(.int .u64 v328), (.bool v329)] ∧ FrB [b45] h1 h315) → (b45 < h1.n ∧ h1.n ≤ b53 ∧ b53 < b56 ∧ b56 < h315.n) → SlR 6 T_api_Tok.R o320 e321 v319 M322 → κ.R f314 h315) → Lq E (.loop L_burinref05_parser_chain_1) κ t f40 h41 := by
 revert live_39 v46 v51 v52 v57 v58 x
 refine loop6' ?_
 intro live_39 v46 v51 v52 v57 v58 r hb x hn f40 h41 o47 e48 M49 Y42 Y43 Y44 s50 ex0 ex1
 dsimp only [G_burinref05_parser_chain_L1] at hb
 refine loop_step L_burinref05_parser_chain_1.eq_1 ?_
 have X := And.intro Y42 (And.intro Y43 (s50.len))
 refine Tw ?_
 refine Tw ?_
 refine bnd1 hb (fun j86 hj hb => ?_)
 refine wq_joinF (fun Z => ∀ (f81 : Fr), Ex2.b () = j86 → (f81 0 = (.ptr b45 0) ∧ f81 1 = (.int .i64 least_38) ∧ f81 2 = (.bool live_39) ∧ f81 6 = (.ptr b53 0) ∧ f81 7 = (.ptr b56 0)) → Z f81) (fun Z hX72 => ?_) ?_
 ·have hr71 := hb
  clear hb
  have hb := hj
  clear hj
  refine wq_def J_burinref05_parser_chain_1.eq_1 ?_
  refine Tw ?_
  refine Tw ?_
  refine bq_if hb rfl (fun c73 hb => ?_) (fun c73 hb => ?_)
  ·have X := And.intro c73 X
   refine Tw ?_
   refine bq_if hb rfl (fun c74 hb => ?_) (fun c74 hb => ?_)
   ·have X := And.intro c74 X
    refine Tw ?_
    refine vq_iaddr s50 hb (fun x75 cs76 hx75 hb hcs76 => ?_)
    cases (show cs76 = [(.int .i64 x75.Kind_), (.str x75.S_), (.str x75.File_), (.int .i64 x75.Line_), (.bool x75.Space_), (.bool x75.First_)] from hcs76)
    refine Tw ?_
    refine bq_if hb rfl (fun c77 hb => ?_) (fun c77 hb => ?_)
    ·have hb := Option.some.inj hb
     subst hb
     have X := And.intro c77 X
     refine Tw ?_
     exact hX72 _ rfl Cf
    ·have hq := Option.some.inj hb
     subst hq
     try dsimp only at hr71
     have hb := hr71
     have hb := Option.some.inj hb
     subst hb
     have hn : _ = _ := hn
     subst hn
     have X := And.intro c77 X
     refine Tw ?_
     exact ex0 _ _ v46 v51 true v57 v58 o47 e48 M49 rfl Cf Cn s50
   ·have hq := Option.some.inj hb
    subst hq
    try dsimp only at hr71
    have hb := hr71
    have hb := Option.some.inj hb
    subst hb
    have hn : _ = _ := hn
    subst hn
    have X := And.intro c74 X
    refine Tw ?_
    exact ex0 _ _ v46 v51 true v57 v58 o47 e48 M49 rfl Cf Cn s50
  ·have hq := Option.some.inj hb
   subst hq
   try dsimp only at hr71
   have hb := hr71
   have hb := Option.some.inj hb
   subst hb
   have hn : _ = _ := hn
   subst hn
   have X := And.intro c73 X
   refine Tw ?_
   exact ex0 _ _ v46 v51 false v57 v58 o47 e48 M49 rfl Cf Cn s50
 ·intro f81 ej Y83
  subst ej
  try dsimp only at hb
  have X := And.intro Y83 X
  refine Tw ?_
  refine vq_iaddr s50 hb (fun x92 cs93 hx92 hb hcs93 => ?_)
  cases (show cs93 = [(.int .i64 x92.Kind_), (.str x92.S_), (.str x92.File_), (.int .i64 x92.Line_), (.bool x92.Space_), (.bool x92.First_)] from hcs93)
  refine Tw ?_
  refine bnd1 hb (fun r94 h95 hb => ?_)
  refine pq_eq (G_burinref05_level_ok h95) ?_
  refine Tw ?_
  refine bnd1 hb (fun j110 hj hb => ?_)
  refine wq_joinF (fun Z => ∀ (f105 : Fr), Ex2.b () = j110 → (f105 0 = (.ptr b45 0) ∧ f105 1 = (.int .i64 least_38) ∧ f105 2 = (.bool live_39) ∧ f105 6 = (.ptr b53 0) ∧ f105 7 = (.ptr b56 0) ∧ f105 8 = (.str x92.S_) ∧ f105 9 = (.int .i64 r94)) → Z f105) (fun Z hX98 => ?_) ?_
  ·have hr97 := hb
   clear hb
   have hb := hj
   clear hj
   refine wq_def J_burinref05_parser_chain_2.eq_1 ?_
   refine Tw ?_
   refine Tw ?_
   refine bq_if hb rfl (fun c99 hb => ?_) (fun c99 hb => ?_)
   ·have hq := Option.some.inj hb
    subst hq
    try dsimp only at hr97
    have hb := hr97
    have hb := Option.some.inj hb
    subst hb
    have hn : _ = _ := hn
    subst hn
    have X := And.intro c99 X
    refine Tw ?_
    exact ex1 _ _ v46 v51 v52 v57 v58 v57 v58 o47 e48 M49 rfl Cf Cn s50
   ·have X := And.intro c99 X
    refine Tw ?_
    refine bq_if hb rfl (fun c102 hb => ?_) (fun c102 hb => ?_)
    ·have hq := Option.some.inj hb
     subst hq
     try dsimp only at hr97
     have hb := hr97
     have hb := Option.some.inj hb
     subst hb
     have hn : _ = _ := hn
     subst hn
     have X := And.intro c102 X
     refine Tw ?_
     exact ex1 _ _ v46 v51 v52 v57 v58 v57 v58 o47 e48 M49 rfl Cf Cn s50
    ·have hb := Option.some.inj hb
     subst hb
     have X := And.intro c102 X
     refine Tw ?_
     exact hX98 _ rfl Cf
  ·intro f105 ej Y107
   subst ej
   try dsimp only at hb
   have X := And.intro Y107 X
   refine Tw ?_
   refine bq_if hb rfl (fun c119 hb => ?_) (fun c119 hb => ?_)
   ·have X := And.intro c119 X
    refine Tw ?_
    refine bnd1 hb (fun j174 hj hb => ?_)
    refine wq_join (fun Z => ∀ (f158 : Fr) (h159 : Heap) (live_157 : Bool) (v163 : List T_api_Tok) (v168 : Int) (v169 : Bool) (v171 : Int) (v172 : Bool) (o164 : Own) (e165 : Nat) (M166 : List (List PV)) (b170 : Nat), (live_157, v163, v168, v169, v171, v172) = j174 → (f158 0 = (.ptr b45 0) ∧ f158 1 = (.int .i64 least_38) ∧ f158 2 = (.bool live_157) ∧ f158 6 = (.ptr b53 0) ∧ f158 7 = (.ptr b56 0) ∧ f158 10 = (.ptr b170 0) ∧ h159.box b45 = some [(.slice o164 e165 M166), (.int .i64 v168), (.bool v169)] ∧ h159.box b53 = some [(.int .u64 v54), (.bool v55)] ∧ h159.box b56 = some [(.int .u64 v57), (.bool v58)] ∧ h159.box b170 = some [(.int .u64 v171), (.bool v172)] ∧ FrB [b45] h1 h159) → (b45 < h1.n ∧ h1.n ≤ b53 ∧ b53 < b56 ∧ b56 < b170 ∧ b170 < h159.n) → SlR 6 T_api_Tok.R o164 e165 v163 M166 → Z f158 h159) (fun Z hX122 => ?_) ?_
    ·have hr121 := hb
     clear hb
     have hb := hj
     clear hj
     refine wq_def J_burinref05_parser_chain_3.eq_1 ?_
     refine Tw ?_
     refine Tw ?_
     refine bq_if hb rfl (fun c123 hb => ?_) (fun c123 hb => ?_)
     ·have X := And.intro c123 X
      refine Tw ?_
      refine bnd2 hb (fun r124 p125 h130 hb => ?_)
      try dsimp only at hb
      refine fq_mono1 (hF.burinref05_parser_chain h130 Cw Cn s50) (fun o126 e127 M128 h131 S140 => ?_)
      have z134 := S140.1
      have F132 := S140.2.1
      have s129 := S140.2.2
      have q133 := F132.n
      try simp only [HN] at q133
      have F135 : FrB [b45] h1 h131 := FrB.call Cf F132 (by intro j hj; simp only [List.mem_cons, List.not_mem_nil, or_false] at hj; first | (subst hj; left; simp; done) | (right; omega))
      have hb := Option.some.inj hb
      subst hb
      have X := And.intro z134 (And.intro F132.box1 (And.intro F132.loop (And.intro F132.bty (And.intro F135 (And.intro s129.len X)))))
      refine Tw ?_
      exact hX122 _ _ true p125.l_ p125.at_ p125.ok_ r124.V_ r124.U_ o126 e127 M128 h131.n rfl Cf Cn s129
     ·have X := And.intro c123 X
      refine Tw ?_
      refine bnd2 hb (fun r141 p142 h147 hb => ?_)
      try dsimp only at hb
      refine fq_mono1 (hF.burinref05_parser_chain h147 Cw Cn s50) (fun o143 e144 M145 h148 S156 => ?_)
      have z151 := S156.1
      have F149 := S156.2.1
      have s146 := S156.2.2
      have q150 := F149.n
      try simp only [HN] at q150
      have F152 : FrB [b45] h1 h148 := FrB.call Cf F149 (by intro j hj; simp only [List.mem_cons, List.not_mem_nil, or_false] at hj; first | (subst hj; left; simp; done) | (right; omega))
      have hb := Option.some.inj hb
      subst hb
      have X := And.intro z151 (And.intro F149.box1 (And.intro F149.loop (And.intro F149.bty (And.intro F152 (And.intro s146.len X)))))
      refine Tw ?_
      exact hX122 _ _ false p142.l_ p142.at_ p142.ok_ r141.V_ r141.U_ o143 e144 M145 h148.n rfl Cf Cn s146
    ·intro f158 h159 live_157 v163 v168 v169 v171 v172 o164 e165 M166 b170 ej Y160 Y162 s167
     subst ej
     try dsimp only at hb
     have X := And.intro Y160 (And.intro s167.len X)
     refine Tw ?_
     refine bq_if hb rfl (fun c186 hb => ?_) (fun c186 hb => ?_)
     ·have X := And.intro c186 X
      refine Tw ?_
      refine bnd1 hb (fun r187 h188 hb => ?_)
      refine pq_eq (G_burinref05_truth_ok h188) ?_
      have hb := Option.some.inj hb
      subst hb
      refine Tw ?_
      exact hn _ _ o164 e165 M166 Cw Cf Cn s167 ex0 ex1
     ·have X := And.intro c186 X
      refine Tw ?_
      refine bnd1 hb (fun r190 h191 hb => ?_)
      refine pq_eq (G_burinref05_truth_ok h191) ?_
      have hb := Option.some.inj hb
      subst hb
      refine Tw ?_
      exact hn _ _ o164 e165 M166 Cw Cf Cn s167 ex0 ex1
   ·have X := And.intro c119 X
    refine Tw ?_
    refine bq_if hb rfl (fun c193 hb => ?_) (fun c193 hb => ?_)
    ·have X := And.intro c193 X
     refine Tw ?_
     refine bnd1 hb (fun j248 hj hb => ?_)
     refine wq_join (fun Z => ∀ (f232 : Fr) (h233 : Heap) (live_231 : Bool) (v237 : List T_api_Tok) (v242 : Int) (v243 : Bool) (v245 : Int) (v246 : Bool) (o238 : Own) (e239 : Nat) (M240 : List (List PV)) (b244 : Nat), (live_231, v237, v242, v243, v245, v246) = j248 → (f232 0 = (.ptr b45 0) ∧ f232 1 = (.int .i64 least_38) ∧ f232 2 = (.bool live_231) ∧ f232 6 = (.ptr b53 0) ∧ f232 7 = (.ptr b56 0) ∧ f232 11 = (.ptr b244 0) ∧ h233.box b45 = some [(.slice o238 e239 M240), (.int .i64 v242), (.bool v243)] ∧ h233.box b53 = some [(.int .u64 v54), (.bool v55)] ∧ h233.box b56 = some [(.int .u64 v57), (.bool v58)] ∧ h233.box b244 = some [(.int .u64 v245), (.bool v246)] ∧ FrB [b45] h1 h233) → (b45 < h1.n ∧ h1.n ≤ b53 ∧ b53 < b56 ∧ b56 < b244 ∧ b244 < h233.n) → SlR 6 T_api_Tok.R o238 e239 v237 M240 → Z f232 h233) (fun Z hX196 => ?_) ?_
     ·have hr195 := hb
      clear hb
      have hb := hj
      clear hj
      refine wq_def J_burinref05_parser_chain_4.eq_1 ?_
      refine Tw ?_
      refine Tw ?_
      refine bq_if hb rfl (fun c197 hb => ?_) (fun c197 hb => ?_)
      ·have X := And.intro c197 X
       refine Tw ?_
       refine bnd2 hb (fun r198 p199 h204 hb => ?_)
       try dsimp only at hb
       refine fq_mono1 (hF.burinref05_parser_chain h204 Cw Cn s50) (fun o200 e201 M202 h205 S214 => ?_)
       have z208 := S214.1
       have F206 := S214.2.1
       have s203 := S214.2.2
       have q207 := F206.n
       try simp only [HN] at q207
       have F209 : FrB [b45] h1 h205 := FrB.call Cf F206 (by intro j hj; simp only [List.mem_cons, List.not_mem_nil, or_false] at hj; first | (subst hj; left; simp; done) | (right; omega))
       have hb := Option.some.inj hb
       subst hb
       have X := And.intro z208 (And.intro F206.box1 (And.intro F206.loop (And.intro F206.bty (And.intro F209 (And.intro s203.len X)))))
       refine Tw ?_
       exact hX196 _ _ true p199.l_ p199.at_ p199.ok_ r198.V_ r198.U_ o200 e201 M202 h205.n rfl Cf Cn s203
      ·have X := And.intro c197 X
       refine Tw ?_
       refine bnd2 hb (fun r215 p216 h221 hb => ?_)
       try dsimp only at hb
       refine fq_mono1 (hF.burinref05_parser_chain h221 Cw Cn s50) (fun o217 e218 M219 h222 S230 => ?_)
       have z225 := S230.1
       have F223 := S230.2.1
       have s220 := S230.2.2
       have q224 := F223.n
       try simp only [HN] at q224
       have F226 : FrB [b45] h1 h222 := FrB.call Cf F223 (by intro j hj; simp only [List.mem_cons, List.not_mem_nil, or_false] at hj; first | (subst hj; left; simp; done) | (right; omega))
       have hb := Option.some.inj hb
       subst hb
       have X := And.intro z225 (And.intro F223.box1 (And.intro F223.loop (And.intro F223.bty (And.intro F226 (And.intro s220.len X)))))
       refine Tw ?_
       exact hX196 _ _ false p216.l_ p216.at_ p216.ok_ r215.V_ r215.U_ o217 e218 M219 h222.n rfl Cf Cn s220
     ·intro f232 h233 live_231 v237 v242 v243 v245 v246 o238 e239 M240 b244 ej Y234 Y236 s241
      subst ej
      try dsimp only at hb
      have X := And.intro Y234 (And.intro s241.len X)
      refine Tw ?_
      refine bq_if hb rfl (fun c260 hb => ?_) (fun c260 hb => ?_)
      ·have X := And.intro c260 X
       refine Tw ?_
       refine bnd1 hb (fun r261 h262 hb => ?_)
       refine pq_eq (G_burinref05_truth_ok h262) ?_
       have hb := Option.some.inj hb
       subst hb
       refine Tw ?_
       exact hn _ _ o238 e239 M240 Cw Cf Cn s241 ex0 ex1
      ·have X := And.intro c260 X
       refine Tw ?_
       refine bnd1 hb (fun r264 h265 hb => ?_)
       refine pq_eq (G_burinref05_truth_ok h265) ?_
       have hb := Option.some.inj hb
       subst hb
       refine Tw ?_
       exact hn _ _ o238 e239 M240 Cw Cf Cn s241 ex0 ex1
    ·have X := And.intro c193 X
     refine Tw ?_
     refine bnd2 hb (fun r267 p268 h273 hb => ?_)
     try dsimp only at hb
     refine fq_mono1 (hF.burinref05_parser_chain h273 Cw Cn s50) (fun o269 e270 M271 h274 S298 => ?_)
     have z277 := S298.1
     have F275 := S298.2.1
     have s272 := S298.2.2
     have q276 := F275.n
     try simp only [HN] at q276
     have F278 : FrB [b45] h1 h274 := FrB.call Cf F275 (by intro j hj; simp only [List.mem_cons, List.not_mem_nil, or_false] at hj; first | (subst hj; left; simp; done) | (right; omega))
     have X := And.intro z277 (And.intro F275.box1 (And.intro F275.loop (And.intro F275.bty (And.intro F278 (And.intro s272.len X)))))
     refine Tw ?_
     refine bnd2 hb (fun r283 p284 h289 hb => ?_)
     try dsimp only at hb
     refine fq_mono1 (G_burinref05_parser_apply_ok h289 Cw Cn s272) (fun o285 e286 M287 h290 S297 => ?_)
     have z293 := S297.1
     have F291 := S297.2.1
     have s288 := S297.2.2
     have q292 := F291.n
     try simp only [HN] at q292
     have F294 : FrB [b45] h1 h290 := FrB.call Cf F291 (by intro j hj; simp only [List.mem_cons, List.not_mem_nil, or_false] at hj; first | (subst hj; left; simp; done) | (right; omega))
     have hb := Option.some.inj hb
     subst hb
     have X := And.intro z293 (And.intro F291.box1 (And.intro F291.loop (And.intro F291.bty (And.intro F294 (And.intro s288.len X)))))
     refine Tw ?_
     exact hn _ _ o285 e286 M287 Cw Cf Cn s288 ex0 ex1
def G_burinref05_parser_chain_b (F : Rec_burinref05_parser_choice) (p_2 : T_burinref05_parser) (least_9 : Int) (live_10 : Bool) : Option (T_burinref05_Value × T_burinref05_parser) :=
 F.burinref05_parser_front p_2 live_10 >>= fun (r22, p23) =>
 loopO (G_burinref05_parser_chain_L1 F least_9) (live_10, p23.l_, p23.at_, p23.ok_, r22.V_, r22.U_) >>= fun q331 => match q331 with
  | .a (v304, v309, v310, v311, v312) =>
   some ((T_burinref05_Value.mk v311 v312), (T_burinref05_parser.mk v304 v309 v310))
  | .b (v319, v324, v325, v326, v327, v328, v329) =>
   some ((T_burinref05_Value.mk v326 v327), (T_burinref05_parser.mk v319 v324 v325))
theorem G_burinref05_parser_chain_b_ok {F : Rec_burinref05_parser_choice} (hF : Rec_burinref05_parser_choice.OK F) {h1 : Heap} {b4 : Nat} {p_2 : T_burinref05_parser} {least_9 : Int} {live_10 : Bool} {o5 : Own} {e6 : Nat} {M7 : List (List PV)} {r11 : T_burinref05_Value} {r12 : T_burinref05_parser} (hx : G_burinref05_parser_chain_b F p_2 least_9 live_10 = some (r11, r12)) (z17 : h1.box b4 = some [(.slice o5 e6 M7), (.int .i64 p_2.at_), (.bool p_2.ok_)]) (w18 : b4 < h1.n) (s8 : SlR 6 T_api_Tok.R o5 e6 p_2.l_ M7) : CallC E (.func 63 [] []) [(.ptr b4 0), (.int .i64 least_9), (.bool live_10)] h1 (fun v h19 => ∃ o13 e14 M15, v = (.agg [(.int .u64 r11.V_), (.bool r11.U_)]) ∧ h19.box b4 = some [(.slice o13 e14 M15), (.int .i64 r12.at_), (.bool r12.ok_)] ∧ FrB [b4] h1 h19 ∧ SlR 6 T_api_Tok.R o13 e14 r12.l_ M15) := by
 refine callE_ok fn_burinref05_parser_chain rfl ?_
 have hb := hx
 dsimp only [G_burinref05_parser_chain_b] at hb
 have X := And.intro z17 (s8.len)
 refine Tw ?_
 refine bnd2 hb (fun r22 p23 h28 hb => ?_)
 try dsimp only at hb
 refine fq_mono1 (hF.burinref05_parser_front h28 Cw Cn s8) (fun o24 e25 M26 h29 S347 => ?_)
 have z32 := S347.1
 have F30 := S347.2.1
 have s27 := S347.2.2
 have q31 := F30.n
 try simp only [HN] at q31
 have F33 : FrB [b4] h1 h29 := FrB.call Cf F30 (by intro j hj; simp only [List.mem_cons, List.not_mem_nil, or_false] at hj; first | (subst hj; left; simp; done) | (right; omega))
 have X := And.intro z32 (And.intro F30.box1 (And.intro F30.loop (And.intro F30.bty (And.intro F33 (And.intro s27.len X)))))
 refine Tw ?_
 refine bnd1 hb (fun q331 h332 hb => ?_)
 refine G_burinref05_parser_chain_L1_ok (v54 := (0 : Int)) (v55 := false) (b45 := b4) (b53 := h1.n) (b56 := h29.n) (h1 := h1) hF _ _ _ _ _ _ _ h332 _ _ o24 e25 M26 Cw Cf Cn s27 ?_ ?_
 ·intro f299 h300 v304 v309 v310 v311 v312 o305 e306 M307 ex Y301 Y303 s308
  subst ex
  try dsimp only at hb
  have hb := Option.some.inj hb
  obtain ⟨e0, e1⟩ := Prod.mk.inj hb
  subst e0
  subst e1
  have X := And.intro Y301 (And.intro s308.len X)
  refine Tw ?_
  exact endHI ⟨o305, e306, M307, rfl, Cw, Cf, s308⟩
 ·intro f314 h315 v319 v324 v325 v326 v327 v328 v329 o320 e321 M322 ex Y316 Y318 s323
  subst ex
  try dsimp only at hb
  have hb := Option.some.inj hb
  obtain ⟨e0, e1⟩ := Prod.mk.inj hb
  subst e0
  subst e1
  have X := And.intro Y316 (And.intro s323.len X)
  refine Tw ?_
  exact endHI ⟨o320, e321, M322, rfl, Cw, Cf, s323⟩
def G_burinref05_parser_front_b (F : Rec_burinref05_parser_choice) (p_2 : T_burinref05_parser) (live_9 : Bool) : Option (T_burinref05_Value × T_burinref05_parser) :=
 G_burinref05_parser_takes p_2 ([43] : Bytes) >>= fun (r21, p22) =>
 if r21 then
  F.burinref05_parser_front p22 live_9 >>= fun (r35, p36) =>
  some (r35, p36)
 else
  G_burinref05_parser_takes p22 ([45] : Bytes) >>= fun (r50, p51) =>
  if r50 then
   F.burinref05_parser_front p51 live_9 >>= fun (r64, p65) =>
   some ((T_burinref05_Value.mk (IntKind.wrap .u64 (0 - r64.V_)) r64.U_), p65)
  else
   G_burinref05_parser_takes p51 ([126] : Bytes) >>= fun (r82, p83) =>
   if r82 then
    F.burinref05_parser_front p83 live_9 >>= fun (r96, p97) =>
    some ((T_burinref05_Value.mk (bxor .u64 (if IntKind.signed .u64 = true then -1 else IntKind.max .u64) r96.V_) r96.U_), p97)
   else
    G_burinref05_parser_takes p83 ([33] : Bytes) >>= fun (r114, p115) =>
    if r114 then
     F.burinref05_parser_front p115 live_9 >>= fun (r128, p129) =>
     G_burinref05_truth (r128.V_ == (0 : Int)) >>= fun r144 =>
     some (r144, p129)
    else
     F.burinref05_parser_atom p115 live_9 >>= fun (r148, p149) =>
     some (r148, p149)
theorem G_burinref05_parser_front_b_ok {F : Rec_burinref05_parser_choice} (hF : Rec_burinref05_parser_choice.OK F) {h1 : Heap} {b4 : Nat} {p_2 : T_burinref05_parser} {live_9 : Bool} {o5 : Own} {e6 : Nat} {M7 : List (List PV)} {r10 : T_burinref05_Value} {r11 : T_burinref05_parser} (hx : G_burinref05_parser_front_b F p_2 live_9 = some (r10, r11)) (z16 : h1.box b4 = some [(.slice o5 e6 M7), (.int .i64 p_2.at_), (.bool p_2.ok_)]) (w17 : b4 < h1.n) (s8 : SlR 6 T_api_Tok.R o5 e6 p_2.l_ M7) : CallC E (.func 91 [] []) [(.ptr b4 0), (.bool live_9)] h1 (fun v h18 => ∃ o12 e13 M14, v = (.agg [(.int .u64 r10.V_), (.bool r10.U_)]) ∧ h18.box b4 = some [(.slice o12 e13 M14), (.int .i64 r11.at_), (.bool r11.ok_)] ∧ FrB [b4] h1 h18 ∧ SlR 6 T_api_Tok.R o12 e13 r11.l_ M14) := by
 refine callE_ok fn_burinref05_parser_front rfl ?_
 have hb := hx
 dsimp only [G_burinref05_parser_front_b] at hb
 have X := And.intro z16 (s8.len)
 refine Tw ?_
 refine bnd2 hb (fun r21 p22 h27 hb => ?_)
 try dsimp only at hb
 refine fq_mono1 (G_burinref05_parser_takes_ok h27 Cw Cn s8) (fun o23 e24 M25 h28 S166 => ?_)
 have z31 := S166.1
 have F29 := S166.2.1
 have s26 := S166.2.2
 have q30 := F29.n
 try simp only [HN] at q30
 have F32 : FrB [b4] h1 h28 := FrB.call Cf F29 (by intro j hj; simp only [List.mem_cons, List.not_mem_nil, or_false] at hj; first | (subst hj; left; simp; done) | (right; omega))
 have X := And.intro z31 (And.intro F29.box1 (And.intro F29.loop (And.intro F29.bty (And.intro F32 (And.intro s26.len X)))))
 refine Tw ?_
 refine bq_if hb rfl (fun c34 hb => ?_) (fun c34 hb => ?_)
 ·have X := And.intro c34 X
  refine Tw ?_
  refine bnd2 hb (fun r35 p36 h41 hb => ?_)
  try dsimp only at hb
  refine fq_mono1 (hF.burinref05_parser_front h41 Cw Cn s26) (fun o37 e38 M39 h42 S49 => ?_)
  have z45 := S49.1
  have F43 := S49.2.1
  have s40 := S49.2.2
  have q44 := F43.n
  try simp only [HN] at q44
  have F46 : FrB [b4] h1 h42 := FrB.call Cf F43 (by intro j hj; simp only [List.mem_cons, List.not_mem_nil, or_false] at hj; first | (subst hj; left; simp; done) | (right; omega))
  have hb := Option.some.inj hb
  obtain ⟨e0, e1⟩ := Prod.mk.inj hb
  subst e0
  subst e1
  have X := And.intro z45 (And.intro F43.box1 (And.intro F43.loop (And.intro F43.bty (And.intro F46 (And.intro s40.len X)))))
  refine Tw ?_
  exact endHI ⟨o37, e38, M39, rfl, Cw, Cf, s40⟩
 ·have X := And.intro c34 X
  refine Tw ?_
  refine bnd2 hb (fun r50 p51 h56 hb => ?_)
  try dsimp only at hb
  refine fq_mono1 (G_burinref05_parser_takes_ok h56 Cw Cn s26) (fun o52 e53 M54 h57 S165 => ?_)
  have z60 := S165.1
  have F58 := S165.2.1
  have s55 := S165.2.2
  have q59 := F58.n
  try simp only [HN] at q59
  have F61 : FrB [b4] h1 h57 := FrB.call Cf F58 (by intro j hj; simp only [List.mem_cons, List.not_mem_nil, or_false] at hj; first | (subst hj; left; simp; done) | (right; omega))
  have X := And.intro z60 (And.intro F58.box1 (And.intro F58.loop (And.intro F58.bty (And.intro F61 (And.intro s55.len X)))))
  refine Tw ?_
  refine bq_if hb rfl (fun c63 hb => ?_) (fun c63 hb => ?_)
  ·have X := And.intro c63 X
   refine Tw ?_
   refine bnd2 hb (fun r64 p65 h70 hb => ?_)
   try dsimp only at hb
   refine fq_mono1 (hF.burinref05_parser_front h70 Cw Cn s55) (fun o66 e67 M68 h71 S81 => ?_)
   have z74 := S81.1
   have F72 := S81.2.1
   have s69 := S81.2.2
   have q73 := F72.n
   try simp only [HN] at q73
   have F75 : FrB [b4] h1 h71 := FrB.call Cf F72 (by intro j hj; simp only [List.mem_cons, List.not_mem_nil, or_false] at hj; first | (subst hj; left; simp; done) | (right; omega))
   have hb := Option.some.inj hb
   obtain ⟨e0, e1⟩ := Prod.mk.inj hb
   subst e0
   subst e1
   have X := And.intro z74 (And.intro F72.box1 (And.intro F72.loop (And.intro F72.bty (And.intro F75 (And.intro s69.len X)))))
   refine Tw ?_
   exact endHI ⟨o66, e67, M68, rfl, Cw, Cf, s69⟩
  ·have X := And.intro c63 X
   refine Tw ?_
   refine bnd2 hb (fun r82 p83 h88 hb => ?_)
   try dsimp only at hb
   refine fq_mono1 (G_burinref05_parser_takes_ok h88 Cw Cn s55) (fun o84 e85 M86 h89 S164 => ?_)
   have z92 := S164.1
   have F90 := S164.2.1
   have s87 := S164.2.2
   have q91 := F90.n
   try simp only [HN] at q91
   have F93 : FrB [b4] h1 h89 := FrB.call Cf F90 (by intro j hj; simp only [List.mem_cons, List.not_mem_nil, or_false] at hj; first | (subst hj; left; simp; done) | (right; omega))
   have X := And.intro z92 (And.intro F90.box1 (And.intro F90.loop (And.intro F90.bty (And.intro F93 (And.intro s87.len X)))))
   refine Tw ?_
   refine bq_if hb rfl (fun c95 hb => ?_) (fun c95 hb => ?_)
   ·have X := And.intro c95 X
    refine Tw ?_
    refine bnd2 hb (fun r96 p97 h102 hb => ?_)
    try dsimp only at hb
    refine fq_mono1 (hF.burinref05_parser_front h102 Cw Cn s87) (fun o98 e99 M100 h103 S113 => ?_)
    have z106 := S113.1
    have F104 := S113.2.1
    have s101 := S113.2.2
    have q105 := F104.n
    try simp only [HN] at q105
    have F107 : FrB [b4] h1 h103 := FrB.call Cf F104 (by intro j hj; simp only [List.mem_cons, List.not_mem_nil, or_false] at hj; first | (subst hj; left; simp; done) | (right; omega))
    have hb := Option.some.inj hb
    obtain ⟨e0, e1⟩ := Prod.mk.inj hb
    subst e0
    subst e1
    have X := And.intro z106 (And.intro F104.box1 (And.intro F104.loop (And.intro F104.bty (And.intro F107 (And.intro s101.len X)))))
    refine Tw ?_
    exact endHI ⟨o98, e99, M100, rfl, Cw, Cf, s101⟩
   ·have X := And.intro c95 X
    refine Tw ?_
    refine bnd2 hb (fun r114 p115 h120 hb => ?_)
    try dsimp only at hb
    refine fq_mono1 (G_burinref05_parser_takes_ok h120 Cw Cn s87) (fun o116 e117 M118 h121 S163 => ?_)
    have z124 := S163.1
    have F122 := S163.2.1
    have s119 := S163.2.2
    have q123 := F122.n
    try simp only [HN] at q123
    have F125 : FrB [b4] h1 h121 := FrB.call Cf F122 (by intro j hj; simp only [List.mem_cons, List.not_mem_nil, or_false] at hj; first | (subst hj; left; simp; done) | (right; omega))
    have X := And.intro z124 (And.intro F122.box1 (And.intro F122.loop (And.intro F122.bty (And.intro F125 (And.intro s119.len X)))))
    refine Tw ?_
    refine bq_if hb rfl (fun c127 hb => ?_) (fun c127 hb => ?_)
    ·have X := And.intro c127 X
     refine Tw ?_
     refine bnd2 hb (fun r128 p129 h134 hb => ?_)
     try dsimp only at hb
     refine fq_mono1 (hF.burinref05_parser_front h134 Cw Cn s119) (fun o130 e131 M132 h135 S147 => ?_)
     have z138 := S147.1
     have F136 := S147.2.1
     have s133 := S147.2.2
     have q137 := F136.n
     try simp only [HN] at q137
     have F139 : FrB [b4] h1 h135 := FrB.call Cf F136 (by intro j hj; simp only [List.mem_cons, List.not_mem_nil, or_false] at hj; first | (subst hj; left; simp; done) | (right; omega))
     have X := And.intro z138 (And.intro F136.box1 (And.intro F136.loop (And.intro F136.bty (And.intro F139 (And.intro s133.len X)))))
     refine Tw ?_
     refine bnd1 hb (fun r144 h145 hb => ?_)
     refine pq_eq (G_burinref05_truth_ok h145) ?_
     have hb := Option.some.inj hb
     obtain ⟨e0, e1⟩ := Prod.mk.inj hb
     subst e0
     subst e1
     refine Tw ?_
     exact endHI ⟨o130, e131, M132, rfl, Cw, Cf, s133⟩
    ·have X := And.intro c127 X
     refine Tw ?_
     refine bnd2 hb (fun r148 p149 h154 hb => ?_)
     try dsimp only at hb
     refine fq_mono1 (hF.burinref05_parser_atom h154 Cw Cn s119) (fun o150 e151 M152 h155 S162 => ?_)
     have z158 := S162.1
     have F156 := S162.2.1
     have s153 := S162.2.2
     have q157 := F156.n
     try simp only [HN] at q157
     have F159 : FrB [b4] h1 h155 := FrB.call Cf F156 (by intro j hj; simp only [List.mem_cons, List.not_mem_nil, or_false] at hj; first | (subst hj; left; simp; done) | (right; omega))
     have hb := Option.some.inj hb
     obtain ⟨e0, e1⟩ := Prod.mk.inj hb
     subst e0
     subst e1
     have X := And.intro z158 (And.intro F156.box1 (And.intro F156.loop (And.intro F156.bty (And.intro F159 (And.intro s153.len X)))))
     refine Tw ?_
     exact endHI ⟨o150, e151, M152, rfl, Cw, Cf, s153⟩
def G_burinref05_base (s_2 : Bytes) : Option (Int × Int) :=
 if (decide ((1 : Int) < ((List.length s_2 : Nat) : Int))) then
  idx s_2 (0 : Int) >>= fun x6 =>
  if ((x6.toNat : Int) == (48 : Int)) then
   idx s_2 (1 : Int) >>= fun x8 =>
   if ((x8.toNat : Int) == (120 : Int)) then
    some ((16 : Int), (2 : Int))
   else
    idx s_2 (1 : Int) >>= fun x10 =>
    if ((x10.toNat : Int) == (88 : Int)) then
     some ((16 : Int), (2 : Int))
    else
     idx s_2 (0 : Int) >>= fun x12 =>
     if ((x12.toNat : Int) == (48 : Int)) then
      some ((8 : Int), (0 : Int))
     else
      some ((10 : Int), (0 : Int))
  else
   idx s_2 (0 : Int) >>= fun x14 =>
   if ((x14.toNat : Int) == (48 : Int)) then
    some ((8 : Int), (0 : Int))
   else
    some ((10 : Int), (0 : Int))
 else
  idx s_2 (0 : Int) >>= fun x16 =>
  if ((x16.toNat : Int) == (48 : Int)) then
   some ((8 : Int), (0 : Int))
  else
   some ((10 : Int), (0 : Int))
theorem G_burinref05_base_ok {s_2 : Bytes} {r3 : Int} {r4 : Int} (hx : G_burinref05_base s_2 = some (r3, r4)) : PureE E 123 [(.str s_2)] (fun v => v = (.tuple [(.int .u64 r3), (.int .i64 r4)])) := by
 refine pureE_ok fn_burinref05_base rfl ?_
 have hb := hx
 dsimp only [G_burinref05_base] at hb
 have X := True.intro
 refine Tw ?_
 refine bq_if hb rfl (fun c5 hb => ?_) (fun c5 hb => ?_)
 ·have X := And.intro c5 X
  refine Tw ?_
  refine vq_idxS hb (fun x6 hx6 hb => ?_)
  refine Tw ?_
  refine bq_if hb rfl (fun c7 hb => ?_) (fun c7 hb => ?_)
  ·have X := And.intro c7 X
   refine Tw ?_
   refine vq_idxS hb (fun x8 hx8 hb => ?_)
   refine Tw ?_
   refine bq_if hb rfl (fun c9 hb => ?_) (fun c9 hb => ?_)
   ·have hb := Option.some.inj hb
    obtain ⟨e0, e1⟩ := Prod.mk.inj hb
    subst e0
    subst e1
    have X := And.intro c9 X
    refine Tw ?_
    exact endI rfl
   ·have X := And.intro c9 X
    refine Tw ?_
    refine vq_idxS hb (fun x10 hx10 hb => ?_)
    refine Tw ?_
    refine bq_if hb rfl (fun c11 hb => ?_) (fun c11 hb => ?_)
    ·have hb := Option.some.inj hb
     obtain ⟨e0, e1⟩ := Prod.mk.inj hb
     subst e0
     subst e1
     have X := And.intro c11 X
     refine Tw ?_
     exact endI rfl
    ·have X := And.intro c11 X
     refine Tw ?_
     refine vq_idxS hb (fun x12 hx12 hb => ?_)
     refine Tw ?_
     refine bq_if hb rfl (fun c13 hb => ?_) (fun c13 hb => ?_)
     ·have hb := Option.some.inj hb
      obtain ⟨e0, e1⟩ := Prod.mk.inj hb
      subst e0
      subst e1
      have X := And.intro c13 X
      refine Tw ?_
      exact endI rfl
     ·have hb := Option.some.inj hb
      obtain ⟨e0, e1⟩ := Prod.mk.inj hb
      subst e0
      subst e1
      have X := And.intro c13 X
      refine Tw ?_
      exact endI rfl
  ·have X := And.intro c7 X
   refine Tw ?_
   refine vq_idxS hb (fun x14 hx14 hb => ?_)
   refine Tw ?_
   refine bq_if hb rfl (fun c15 hb => ?_) (fun c15 hb => ?_)
   ·have hb := Option.some.inj hb
    obtain ⟨e0, e1⟩ := Prod.mk.inj hb
    subst e0
    subst e1
    have X := And.intro c15 X
    refine Tw ?_
    exact endI rfl
   ·have hb := Option.some.inj hb
    obtain ⟨e0, e1⟩ := Prod.mk.inj hb
    subst e0
    subst e1
    have X := And.intro c15 X
    refine Tw ?_
    exact endI rfl
 ·have X := And.intro c5 X
  refine Tw ?_
  refine vq_idxS hb (fun x16 hx16 hb => ?_)
  refine Tw ?_
  refine bq_if hb rfl (fun c17 hb => ?_) (fun c17 hb => ?_)
  ·have hb := Option.some.inj hb
   obtain ⟨e0, e1⟩ := Prod.mk.inj hb
   subst e0
   subst e1
   have X := And.intro c17 X
   refine Tw ?_
   exact endI rfl
  ·have hb := Option.some.inj hb
   obtain ⟨e0, e1⟩ := Prod.mk.inj hb
   subst e0
   subst e1
   have X := And.intro c17 X
   refine Tw ?_
   exact endI rfl
def G_burinref05_hex (c_2 : Int) : Option (Int) :=
 (
  if (decide ((48 : Int) ≤ c_2)) then
   if (decide (c_2 ≤ (57 : Int))) then
    some (Ex2.a (IntKind.wrap .i64 (IntKind.wrap .u8 (c_2 - (48 : Int)))))
   else
    some (Ex2.b ())
  else
   some (Ex2.b ())
 ) >>= fun j15 => match j15 with
  | .a q => some q
  | .b () =>
   (
    if (decide ((97 : Int) ≤ c_2)) then
     if (decide (c_2 ≤ (102 : Int))) then
      some (Ex2.a (IntKind.wrap .i64 ((IntKind.wrap .i64 (IntKind.wrap .u8 (c_2 - (97 : Int)))) + (10 : Int))))
     else
      some (Ex2.b ())
    else
     some (Ex2.b ())
   ) >>= fun j28 => match j28 with
    | .a q => some q
    | .b () =>
     if (decide ((65 : Int) ≤ c_2)) then
      if (decide (c_2 ≤ (70 : Int))) then
       some (IntKind.wrap .i64 ((IntKind.wrap .i64 (IntKind.wrap .u8 (c_2 - (65 : Int)))) + (10 : Int)))
      else
       some (16 : Int)
     else
      some (16 : Int)
end Go.Proofs.YtmngkcpobmhnoaaGreatDoor.Sim
