/- Printed functions, continued. -/
import Derived.Test.YtmngkcpobmhnoaaGreatDoorKG2
set_option linter.all false
set_option maxHeartbeats 4000000
set_option maxRecDepth 20000
namespace Go.Proofs.YtmngkcpobmhnoaaGreatDoor.Sim
def G_cond_eval_binary (p_2 : T_cond_eval) (op_9 : Bytes) (a_10 : T_cond_value) (b_11 : T_cond_value) (counts_12 : Bool) : Option (T_cond_value × T_cond_eval) :=
 (
  if a_10.u_ then
   some (true, true)
  else
   some (b_11.u_, false)
 ) >>= fun (u_32, v38) =>
 if (op_9 == ([42] : Bytes)) then
  some ((T_cond_value.mk (IntKind.wrap .u64 (a_10.v_ * b_11.v_)) u_32), p_2)
 else
  (
   if (op_9 == ([47] : Bytes)) then
    some true
   else
    some (op_9 == ([37] : Bytes))
  ) >>= fun v59 =>
  if v59 then
   G_cond_eval_divided p_2 op_9 (T_cond_value.mk a_10.v_ v38) b_11 counts_12 >>= fun (r76, p77) =>
   some (r76, p77)
  else
   if (op_9 == ([43] : Bytes)) then
    some ((T_cond_value.mk (IntKind.wrap .u64 (a_10.v_ + b_11.v_)) u_32), p_2)
   else
    if (op_9 == ([45] : Bytes)) then
     some ((T_cond_value.mk (IntKind.wrap .u64 (a_10.v_ - b_11.v_)) u_32), p_2)
    else
     (
      if (op_9 == ([60, 60] : Bytes)) then
       some true
      else
       some (op_9 == ([62, 62] : Bytes))
     ) >>= fun v99 =>
     if v99 then
      G_cond_eval_shifted p_2 op_9 (T_cond_value.mk a_10.v_ v38) b_11 counts_12 >>= fun (r116, p117) =>
      some (r116, p117)
     else
      if (op_9 == ([38] : Bytes)) then
       some ((T_cond_value.mk (band .u64 a_10.v_ b_11.v_) u_32), p_2)
      else
       if (op_9 == ([94] : Bytes)) then
        some ((T_cond_value.mk (bxor .u64 a_10.v_ b_11.v_) u_32), p_2)
       else
        if (op_9 == ([124] : Bytes)) then
         some ((T_cond_value.mk (bor .u64 a_10.v_ b_11.v_) u_32), p_2)
        else
         G_cond_compared op_9 (T_cond_value.mk a_10.v_ v38) b_11 >>= fun r137 =>
         some (r137, p_2)
theorem G_cond_eval_binary_ok {h1 : Heap} {b4 : Nat} {p_2 : T_cond_eval} {op_9 : Bytes} {a_10 : T_cond_value} {b_11 : T_cond_value} {counts_12 : Bool} {o5 : Own} {e6 : Nat} {M7 : List (List PV)} {r13 : T_cond_value} {r14 : T_cond_eval} (hx : G_cond_eval_binary p_2 op_9 a_10 b_11 counts_12 = some (r13, r14)) (z19 : h1.box b4 = some [(.slice o5 e6 M7), (.bool p_2.bad_)]) (w20 : b4 < h1.n) (s8 : SlR 6 T_api_Tok.R o5 e6 p_2.l_ M7) : CallC E (.func 90 [] []) [(.ptr b4 0), (.str op_9), (.agg [(.int .u64 a_10.v_), (.bool a_10.u_)]), (.agg [(.int .u64 b_11.v_), (.bool b_11.u_)]), (.bool counts_12)] h1 (fun v h21 => ∃ o15 e16 M17, v = (.agg [(.int .u64 r13.v_), (.bool r13.u_)]) ∧ h21.box b4 = some [(.slice o15 e16 M17), (.bool r14.bad_)] ∧ FrB [b4] h1 h21 ∧ SlR 6 T_api_Tok.R o15 e16 r14.l_ M17) := by
 refine callE_ok fn_cond_eval_binary rfl ?_
 have hb := hx
 dsimp only [G_cond_eval_binary] at hb
 have X := And.intro z19 (s8.len)
 refine Tw ?_
 refine bnd1 hb (fun j40 hj hb => ?_)
 refine wq_join (fun Z => ∀ (f33 : Fr) (h34 : Heap) (u_32 : Bool) (v38 : Bool), (u_32, v38) = j40 → (f33 0 = (.ptr b4 0) ∧ f33 1 = (.str op_9) ∧ f33 4 = (.bool counts_12) ∧ f33 7 = (.ptr h1.n 0) ∧ f33 8 = (.ptr (h1.n + 1) 0) ∧ f33 10 = (.ptr (h1.n + 1 + 1) 0) ∧ f33 11 = (.bool u_32) ∧ h34.box b4 = some [(.slice o5 e6 M7), (.bool p_2.bad_)] ∧ h34.box h1.n = some [(.int .u64 a_10.v_), (.bool v38)] ∧ h34.box (h1.n + 1) = some [(.int .u64 b_11.v_), (.bool b_11.u_)] ∧ h34.box (h1.n + 1 + 1) = some [(.int .u64 (0 : Int)), (.bool false)] ∧ FrB [b4] h1 h34) → (b4 < h1.n ∧ h1.n ≤ h1.n ∧ h1.n < (h1.n + 1) ∧ (h1.n + 1) < (h1.n + 1 + 1) ∧ (h1.n + 1 + 1) < h34.n) → Z f33 h34) (fun Z hX30 => ?_) ?_
 ·have hr29 := hb
  clear hb
  have hb := hj
  clear hj
  refine wq_def J_cond_eval_binary_1.eq_1 ?_
  refine Tw ?_
  refine Tw ?_
  refine bq_if hb rfl (fun c31 hb => ?_) (fun c31 hb => ?_)
  ·have hb := Option.some.inj hb
   subst hb
   have X := And.intro c31 X
   refine Tw ?_
   exact hX30 _ _ true true rfl Cf Cn
  ·have hb := Option.some.inj hb
   subst hb
   have X := And.intro c31 X
   refine Tw ?_
   exact hX30 _ _ b_11.u_ false rfl Cf Cn
 ·intro f33 h34 u_32 v38 ej Y35 Y37
  subst ej
  try dsimp only at hb
  have X := And.intro Y35 X
  refine Tw ?_
  refine bq_if hb rfl (fun c53 hb => ?_) (fun c53 hb => ?_)
  ·have hb := Option.some.inj hb
   obtain ⟨e0, e1⟩ := Prod.mk.inj hb
   subst e0
   subst e1
   have X := And.intro c53 X
   refine Tw ?_
   exact endHI ⟨o5, e6, M7, rfl, Cw, Cf, s8⟩
  ·have X := And.intro c53 X
   refine Tw ?_
   refine bnd1 hb (fun j65 hj hb => ?_)
   refine wq_joinF (fun Z => ∀ (f60 : Fr) (v59 : Bool), v59 = j65 → (f60 0 = (.ptr b4 0) ∧ f60 1 = (.str op_9) ∧ f60 4 = (.bool counts_12) ∧ f60 7 = (.ptr h1.n 0) ∧ f60 8 = (.ptr (h1.n + 1) 0) ∧ f60 10 = (.ptr (h1.n + 1 + 1) 0) ∧ f60 11 = (.bool u_32) ∧ f60 18 = (.str op_9) ∧ f60 28 = (.bool v59)) → Z f60) (fun Z hX57 => ?_) ?_
   ·have hr56 := hb
    clear hb
    have hb := hj
    clear hj
    refine wq_def J_cond_eval_binary_2.eq_1 ?_
    refine Tw ?_
    refine Tw ?_
    refine bq_if hb rfl (fun c58 hb => ?_) (fun c58 hb => ?_)
    ·have hb := Option.some.inj hb
     subst hb
     have X := And.intro c58 X
     refine Tw ?_
     exact hX57 _ true rfl Cf
    ·have hb := Option.some.inj hb
     subst hb
     have X := And.intro c58 X
     refine Tw ?_
     exact hX57 _ (op_9 == ([37] : Bytes)) rfl Cf
   ·intro f60 v59 ej Y62
    subst ej
    try dsimp only at hb
    have X := And.intro Y62 X
    refine Tw ?_
    refine bq_if hb rfl (fun c75 hb => ?_) (fun c75 hb => ?_)
    ·have X := And.intro c75 X
     refine Tw ?_
     refine bnd2 hb (fun r76 p77 h82 hb => ?_)
     try dsimp only at hb
     refine fq_mono1 (G_cond_eval_divided_ok h82 Cw Cn s8) (fun o78 e79 M80 h83 S90 => ?_)
     have z86 := S90.1
     have F84 := S90.2.1
     have s81 := S90.2.2
     have q85 := F84.n
     try simp only [HN] at q85
     have F87 : FrB [b4] h1 h83 := FrB.call Cf F84 (by intro j hj; simp only [List.mem_cons, List.not_mem_nil, or_false] at hj; first | (subst hj; left; simp; done) | (right; omega))
     have hb := Option.some.inj hb
     obtain ⟨e0, e1⟩ := Prod.mk.inj hb
     subst e0
     subst e1
     have X := And.intro z86 (And.intro F84.box1 (And.intro F84.loop (And.intro F84.bty (And.intro F87 (And.intro s81.len X)))))
     refine Tw ?_
     exact endHI ⟨o78, e79, M80, rfl, Cw, Cf, s81⟩
    ·have X := And.intro c75 X
     refine Tw ?_
     refine bq_if hb rfl (fun c91 hb => ?_) (fun c91 hb => ?_)
     ·have hb := Option.some.inj hb
      obtain ⟨e0, e1⟩ := Prod.mk.inj hb
      subst e0
      subst e1
      have X := And.intro c91 X
      refine Tw ?_
      exact endHI ⟨o5, e6, M7, rfl, Cw, Cf, s8⟩
     ·have X := And.intro c91 X
      refine Tw ?_
      refine bq_if hb rfl (fun c93 hb => ?_) (fun c93 hb => ?_)
      ·have hb := Option.some.inj hb
       obtain ⟨e0, e1⟩ := Prod.mk.inj hb
       subst e0
       subst e1
       have X := And.intro c93 X
       refine Tw ?_
       exact endHI ⟨o5, e6, M7, rfl, Cw, Cf, s8⟩
      ·have X := And.intro c93 X
       refine Tw ?_
       refine bnd1 hb (fun j105 hj hb => ?_)
       refine wq_joinF (fun Z => ∀ (f100 : Fr) (v99 : Bool), v99 = j105 → (f100 0 = (.ptr b4 0) ∧ f100 1 = (.str op_9) ∧ f100 4 = (.bool counts_12) ∧ f100 7 = (.ptr h1.n 0) ∧ f100 8 = (.ptr (h1.n + 1) 0) ∧ f100 10 = (.ptr (h1.n + 1 + 1) 0) ∧ f100 11 = (.bool u_32) ∧ f100 18 = (.str op_9) ∧ f100 55 = (.bool v99)) → Z f100) (fun Z hX97 => ?_) ?_
       ·have hr96 := hb
        clear hb
        have hb := hj
        clear hj
        refine wq_def J_cond_eval_binary_3.eq_1 ?_
        refine Tw ?_
        refine Tw ?_
        refine bq_if hb rfl (fun c98 hb => ?_) (fun c98 hb => ?_)
        ·have hb := Option.some.inj hb
         subst hb
         have X := And.intro c98 X
         refine Tw ?_
         exact hX97 _ true rfl Cf
        ·have hb := Option.some.inj hb
         subst hb
         have X := And.intro c98 X
         refine Tw ?_
         exact hX97 _ (op_9 == ([62, 62] : Bytes)) rfl Cf
       ·intro f100 v99 ej Y102
        subst ej
        try dsimp only at hb
        have X := And.intro Y102 X
        refine Tw ?_
        refine bq_if hb rfl (fun c115 hb => ?_) (fun c115 hb => ?_)
        ·have X := And.intro c115 X
         refine Tw ?_
         refine bnd2 hb (fun r116 p117 h122 hb => ?_)
         try dsimp only at hb
         refine fq_mono1 (G_cond_eval_shifted_ok h122 Cw Cn s8) (fun o118 e119 M120 h123 S130 => ?_)
         have z126 := S130.1
         have F124 := S130.2.1
         have s121 := S130.2.2
         have q125 := F124.n
         try simp only [HN] at q125
         have F127 : FrB [b4] h1 h123 := FrB.call Cf F124 (by intro j hj; simp only [List.mem_cons, List.not_mem_nil, or_false] at hj; first | (subst hj; left; simp; done) | (right; omega))
         have hb := Option.some.inj hb
         obtain ⟨e0, e1⟩ := Prod.mk.inj hb
         subst e0
         subst e1
         have X := And.intro z126 (And.intro F124.box1 (And.intro F124.loop (And.intro F124.bty (And.intro F127 (And.intro s121.len X)))))
         refine Tw ?_
         exact endHI ⟨o118, e119, M120, rfl, Cw, Cf, s121⟩
        ·have X := And.intro c115 X
         refine Tw ?_
         refine bq_if hb rfl (fun c131 hb => ?_) (fun c131 hb => ?_)
         ·have hb := Option.some.inj hb
          obtain ⟨e0, e1⟩ := Prod.mk.inj hb
          subst e0
          subst e1
          have X := And.intro c131 X
          refine Tw ?_
          exact endHI ⟨o5, e6, M7, rfl, Cw, Cf, s8⟩
         ·have X := And.intro c131 X
          refine Tw ?_
          refine bq_if hb rfl (fun c133 hb => ?_) (fun c133 hb => ?_)
          ·have hb := Option.some.inj hb
           obtain ⟨e0, e1⟩ := Prod.mk.inj hb
           subst e0
           subst e1
           have X := And.intro c133 X
           refine Tw ?_
           exact endHI ⟨o5, e6, M7, rfl, Cw, Cf, s8⟩
          ·have X := And.intro c133 X
           refine Tw ?_
           refine bq_if hb rfl (fun c135 hb => ?_) (fun c135 hb => ?_)
           ·have hb := Option.some.inj hb
            obtain ⟨e0, e1⟩ := Prod.mk.inj hb
            subst e0
            subst e1
            have X := And.intro c135 X
            refine Tw ?_
            exact endHI ⟨o5, e6, M7, rfl, Cw, Cf, s8⟩
           ·have X := And.intro c135 X
            refine Tw ?_
            refine bnd1 hb (fun r137 h138 hb => ?_)
            refine pq_eq (G_cond_compared_ok h138) ?_
            have hb := Option.some.inj hb
            obtain ⟨e0, e1⟩ := Prod.mk.inj hb
            subst e0
            subst e1
            refine Tw ?_
            exact endHI ⟨o5, e6, M7, rfl, Cw, Cf, s8⟩
def G_cond_eval_chain_L1 (F : Rec_cond_eval_choice) (least_38 : Int) : Bool × List T_api_Tok × Bool × Int × Bool → Option ((Bool × List T_api_Tok × Bool × Int × Bool) ⊕ (List T_api_Tok × Bool × Int × Bool)) := fun (counts_39, v46, v51, v56, v57) =>
 G_cond_eval_sign (T_cond_eval.mk v46 v51) >>= fun (r69, p70) =>
 G_cond_levelOf r69 >>= fun r82 =>
 (
  if (r82 == (0 : Int)) then
   some (Ex2.a (Sum.inr (p70.l_, p70.bad_, v56, v57)))
  else
   if (decide (r82 < least_38)) then
    some (Ex2.a (Sum.inr (p70.l_, p70.bad_, v56, v57)))
   else
    some (Ex2.b ())
 ) >>= fun j96 => match j96 with
  | .a q => some q
  | .b () =>
   G_cond_eval_take p70 r69 >>= fun (r104, p105) =>
   if (r69 == ([38, 38] : Bytes)) then
    if counts_39 then
     F.cond_eval_chain p105 (IntKind.wrap .i64 (r82 + (1 : Int))) (!(v56 == (0 : Int))) >>= fun (r119, p120) =>
     if (!(v56 == (0 : Int))) then
      G_cond_truth (!(r119.v_ == (0 : Int))) >>= fun r136 =>
      some (Sum.inl (true, p120.l_, p120.bad_, r136.v_, r136.u_))
     else
      G_cond_truth false >>= fun r139 =>
      some (Sum.inl (true, p120.l_, p120.bad_, r139.v_, r139.u_))
    else
     F.cond_eval_chain p105 (IntKind.wrap .i64 (r82 + (1 : Int))) false >>= fun (r143, p144) =>
     if (!(v56 == (0 : Int))) then
      G_cond_truth (!(r143.v_ == (0 : Int))) >>= fun r159 =>
      some (Sum.inl (false, p144.l_, p144.bad_, r159.v_, r159.u_))
     else
      G_cond_truth false >>= fun r162 =>
      some (Sum.inl (false, p144.l_, p144.bad_, r162.v_, r162.u_))
   else
    if (r69 == ([124, 124] : Bytes)) then
     if counts_39 then
      F.cond_eval_chain p105 (IntKind.wrap .i64 (r82 + (1 : Int))) (!(!(v56 == (0 : Int)))) >>= fun (r168, p169) =>
      if (!(v56 == (0 : Int))) then
       G_cond_truth true >>= fun r185 =>
       some (Sum.inl (true, p169.l_, p169.bad_, r185.v_, r185.u_))
      else
       G_cond_truth (!(r168.v_ == (0 : Int))) >>= fun r188 =>
       some (Sum.inl (true, p169.l_, p169.bad_, r188.v_, r188.u_))
     else
      F.cond_eval_chain p105 (IntKind.wrap .i64 (r82 + (1 : Int))) false >>= fun (r192, p193) =>
      if (!(v56 == (0 : Int))) then
       G_cond_truth true >>= fun r208 =>
       some (Sum.inl (false, p193.l_, p193.bad_, r208.v_, r208.u_))
      else
       G_cond_truth (!(r192.v_ == (0 : Int))) >>= fun r211 =>
       some (Sum.inl (false, p193.l_, p193.bad_, r211.v_, r211.u_))
    else
     F.cond_eval_chain p105 (IntKind.wrap .i64 (r82 + (1 : Int))) counts_39 >>= fun (r215, p216) =>
     G_cond_eval_binary p216 r69 (T_cond_value.mk v56 v57) r215 counts_39 >>= fun (r231, p232) =>
     some (Sum.inl (counts_39, p232.l_, p232.bad_, r231.v_, r231.u_))
theorem G_cond_eval_chain_L1_ok {F : Rec_cond_eval_choice} (hF : Rec_cond_eval_choice.OK F) {κ : Kt} {t : Blk κ} {least_38 : Int} {v53 : Int} {v54 : Bool} {b45 : Nat} {b52 : Nat} {b55 : Nat} {h1 : Heap} (counts_39 : Bool) (v46 : List T_api_Tok) (v51 : Bool) (v56 : Int) (v57 : Bool) (x : List T_api_Tok × Bool × Int × Bool) (hx : loopO (G_cond_eval_chain_L1 F least_38) (counts_39, v46, v51, v56, v57) = some x) : ∀ (f40 : Fr) (h41 : Heap) (o47 : Own) (e48 : Nat) (M49 : List (List PV)), (f40 0 = (.ptr b45 0) ∧ f40 1 = (.int .i64 least_38) ∧ f40 2 = (.bool counts_39) ∧ f40 6 = (.ptr b52 0) ∧ f40 7 = (.ptr b55 0)) → (h41.box b45 = some [(.slice o47 e48 M49), (.bool v51)] ∧ h41.box b52 = some [(.int .u64 v53), (.bool v54)] ∧ h41.box b55 = some [(.int .u64 v56), (.bool v57)] ∧ FrB [b45] h1 h41) → (b45 < h1.n ∧ h1.n ≤ b52 ∧ b52 < b55 ∧ b55 < h41.n) → SlR 6 T_api_Tok.R o47 e48 v46 M49 → (∀ (f249 : Fr) (h250 : Heap) (v254 : List T_api_Tok) (v259 : Bool) (v260 : Int) (v261 : Bool) (o255 : Own) (e256 : Nat) (M257 : List (List PV)), (v254, v259, v260, v261) = x → (f249 6 = (.ptr b52 0) ∧ f249 7 = (.ptr b55 0) ∧ h250.box b45 = some [(.slice o255 e256 M257), (.bool v259)] ∧ h250.box b52 = some [(.int .u64 v53), (.bool v54)] ∧ h250.box b55 = some [(.int .u64 v260), (.bool v261)] ∧ FrB [b45] h1 h250) → (b45 < h1.n ∧ h1.n ≤ b52 ∧ b52 < b55 ∧ b55 < h250.n) → SlR 6 T_api_Tok.R o255 e256 v254 M257 → κ.B 0 f249 h250) → Lq E (.loop L_cond_eval_chain_1) κ t f40 h41 := by
 revert counts_39 v46 v51 v56 v57 x
 refine loop5' ?_
 intro counts_39 v46 v51 v56 v57 r hb x hn f40 h41 o47 e48 M49 Y42 Y43 Y44 s50 ex0
 dsimp only [G_cond_eval_chain_L1] at hb
 refine loop_step L_cond_eval_chain_1.eq_1 ?_
 have X := And.intro Y42 (And.intro Y43 (s50.len))
 refine Tw ?_
 refine Tw ?_
 refine bnd2 hb (fun r69 p70 h75 hb => ?_)
 try dsimp only at hb
 refine fq_mono1 (G_cond_eval_sign_ok h75 Cw Cn s50) (fun o71 e72 M73 h76 S248 => ?_)
 have z79 := S248.1
 have F77 := S248.2.1
 have s74 := S248.2.2
 have q78 := F77.n
 try simp only [HN] at q78
 have F80 : FrB [b45] h1 h76 := FrB.call Cf F77 (by intro j hj; simp only [List.mem_cons, List.not_mem_nil, or_false] at hj; first | (subst hj; left; simp; done) | (right; omega))
 have X := And.intro z79 (And.intro F77.box1 (And.intro F77.loop (And.intro F77.bty (And.intro F80 (And.intro s74.len X)))))
 refine Tw ?_
 refine bnd1 hb (fun r82 h83 hb => ?_)
 refine pq_eq (G_cond_levelOf_ok h83) ?_
 refine Tw ?_
 refine bnd1 hb (fun j96 hj hb => ?_)
 refine wq_joinF (fun Z => ∀ (f91 : Fr), Ex2.b () = j96 → (f91 0 = (.ptr b45 0) ∧ f91 1 = (.int .i64 least_38) ∧ f91 2 = (.bool counts_39) ∧ f91 6 = (.ptr b52 0) ∧ f91 7 = (.ptr b55 0) ∧ f91 8 = (.str r69) ∧ f91 9 = (.int .i64 r82)) → Z f91) (fun Z hX86 => ?_) ?_
 ·have hr85 := hb
  clear hb
  have hb := hj
  clear hj
  refine wq_def J_cond_eval_chain_1.eq_1 ?_
  refine Tw ?_
  refine Tw ?_
  refine bq_if hb rfl (fun c87 hb => ?_) (fun c87 hb => ?_)
  ·have hq := Option.some.inj hb
   subst hq
   try dsimp only at hr85
   have hb := hr85
   have hb := Option.some.inj hb
   subst hb
   have hn : _ = _ := hn
   subst hn
   have X := And.intro c87 X
   refine Tw ?_
   exact ex0 _ _ p70.l_ p70.bad_ v56 v57 o71 e72 M73 rfl Cf Cn s74
  ·have X := And.intro c87 X
   refine Tw ?_
   refine bq_if hb rfl (fun c89 hb => ?_) (fun c89 hb => ?_)
   ·have hq := Option.some.inj hb
    subst hq
    try dsimp only at hr85
    have hb := hr85
    have hb := Option.some.inj hb
    subst hb
    have hn : _ = _ := hn
    subst hn
    have X := And.intro c89 X
    refine Tw ?_
    exact ex0 _ _ p70.l_ p70.bad_ v56 v57 o71 e72 M73 rfl Cf Cn s74
   ·have hb := Option.some.inj hb
    subst hb
    have X := And.intro c89 X
    refine Tw ?_
    exact hX86 _ rfl Cf
 ·intro f91 ej Y93
  subst ej
  try dsimp only at hb
  have X := And.intro Y93 X
  refine Tw ?_
  refine bnd2 hb (fun r104 p105 h110 hb => ?_)
  try dsimp only at hb
  refine fq_mono1 (G_cond_eval_take_ok h110 Cw Cn s74) (fun o106 e107 M108 h111 S247 => ?_)
  have z114 := S247.1
  have F112 := S247.2.1
  have s109 := S247.2.2
  have q113 := F112.n
  try simp only [HN] at q113
  have F115 : FrB [b45] h1 h111 := FrB.call Cf F112 (by intro j hj; simp only [List.mem_cons, List.not_mem_nil, or_false] at hj; first | (subst hj; left; simp; done) | (right; omega))
  have X := And.intro z114 (And.intro F112.box1 (And.intro F112.loop (And.intro F112.bty (And.intro F115 (And.intro s109.len X)))))
  refine Tw ?_
  refine bq_if hb rfl (fun c117 hb => ?_) (fun c117 hb => ?_)
  ·have X := And.intro c117 X
   refine Tw ?_
   refine bq_if hb rfl (fun c118 hb => ?_) (fun c118 hb => ?_)
   ·have X := And.intro c118 X
    refine Tw ?_
    refine bnd2 hb (fun r119 p120 h125 hb => ?_)
    try dsimp only at hb
    refine fq_mono1 (hF.cond_eval_chain h125 Cw Cn s109) (fun o121 e122 M123 h126 S142 => ?_)
    have z129 := S142.1
    have F127 := S142.2.1
    have s124 := S142.2.2
    have q128 := F127.n
    try simp only [HN] at q128
    have F130 : FrB [b45] h1 h126 := FrB.call Cf F127 (by intro j hj; simp only [List.mem_cons, List.not_mem_nil, or_false] at hj; first | (subst hj; left; simp; done) | (right; omega))
    have X := And.intro z129 (And.intro F127.box1 (And.intro F127.loop (And.intro F127.bty (And.intro F130 (And.intro s124.len X)))))
    refine Tw ?_
    refine bq_if hb rfl (fun c135 hb => ?_) (fun c135 hb => ?_)
    ·have X := And.intro c135 X
     refine Tw ?_
     refine bnd1 hb (fun r136 h137 hb => ?_)
     refine pq_eq (G_cond_truth_ok h137) ?_
     have hb := Option.some.inj hb
     subst hb
     refine Tw ?_
     exact hn _ _ o121 e122 M123 Cw Cf Cn s124 ex0
    ·have X := And.intro c135 X
     refine Tw ?_
     refine bnd1 hb (fun r139 h140 hb => ?_)
     refine pq_eq (G_cond_truth_ok h140) ?_
     have hb := Option.some.inj hb
     subst hb
     refine Tw ?_
     exact hn _ _ o121 e122 M123 Cw Cf Cn s124 ex0
   ·have X := And.intro c118 X
    refine Tw ?_
    refine bnd2 hb (fun r143 p144 h149 hb => ?_)
    try dsimp only at hb
    refine fq_mono1 (hF.cond_eval_chain h149 Cw Cn s109) (fun o145 e146 M147 h150 S165 => ?_)
    have z153 := S165.1
    have F151 := S165.2.1
    have s148 := S165.2.2
    have q152 := F151.n
    try simp only [HN] at q152
    have F154 : FrB [b45] h1 h150 := FrB.call Cf F151 (by intro j hj; simp only [List.mem_cons, List.not_mem_nil, or_false] at hj; first | (subst hj; left; simp; done) | (right; omega))
    have X := And.intro z153 (And.intro F151.box1 (And.intro F151.loop (And.intro F151.bty (And.intro F154 (And.intro s148.len X)))))
    refine Tw ?_
    refine bq_if hb rfl (fun c158 hb => ?_) (fun c158 hb => ?_)
    ·have X := And.intro c158 X
     refine Tw ?_
     refine bnd1 hb (fun r159 h160 hb => ?_)
     refine pq_eq (G_cond_truth_ok h160) ?_
     have hb := Option.some.inj hb
     subst hb
     refine Tw ?_
     exact hn _ _ o145 e146 M147 Cw Cf Cn s148 ex0
    ·have X := And.intro c158 X
     refine Tw ?_
     refine bnd1 hb (fun r162 h163 hb => ?_)
     refine pq_eq (G_cond_truth_ok h163) ?_
     have hb := Option.some.inj hb
     subst hb
     refine Tw ?_
     exact hn _ _ o145 e146 M147 Cw Cf Cn s148 ex0
  ·have X := And.intro c117 X
   refine Tw ?_
   refine bq_if hb rfl (fun c166 hb => ?_) (fun c166 hb => ?_)
   ·have X := And.intro c166 X
    refine Tw ?_
    refine bq_if hb rfl (fun c167 hb => ?_) (fun c167 hb => ?_)
    ·have X := And.intro c167 X
     refine Tw ?_
     refine bnd2 hb (fun r168 p169 h174 hb => ?_)
     try dsimp only at hb
     refine fq_mono1 (hF.cond_eval_chain h174 Cw Cn s109) (fun o170 e171 M172 h175 S191 => ?_)
     have z178 := S191.1
     have F176 := S191.2.1
     have s173 := S191.2.2
     have q177 := F176.n
     try simp only [HN] at q177
     have F179 : FrB [b45] h1 h175 := FrB.call Cf F176 (by intro j hj; simp only [List.mem_cons, List.not_mem_nil, or_false] at hj; first | (subst hj; left; simp; done) | (right; omega))
     have X := And.intro z178 (And.intro F176.box1 (And.intro F176.loop (And.intro F176.bty (And.intro F179 (And.intro s173.len X)))))
     refine Tw ?_
     refine bq_if hb rfl (fun c184 hb => ?_) (fun c184 hb => ?_)
     ·have X := And.intro c184 X
      refine Tw ?_
      refine bnd1 hb (fun r185 h186 hb => ?_)
      refine pq_eq (G_cond_truth_ok h186) ?_
      have hb := Option.some.inj hb
      subst hb
      refine Tw ?_
      exact hn _ _ o170 e171 M172 Cw Cf Cn s173 ex0
     ·have X := And.intro c184 X
      refine Tw ?_
      refine bnd1 hb (fun r188 h189 hb => ?_)
      refine pq_eq (G_cond_truth_ok h189) ?_
      have hb := Option.some.inj hb
      subst hb
      refine Tw ?_
      exact hn _ _ o170 e171 M172 Cw Cf Cn s173 ex0
    ·have X := And.intro c167 X
     refine Tw ?_
     refine bnd2 hb (fun r192 p193 h198 hb => ?_)
     try dsimp only at hb
     refine fq_mono1 (hF.cond_eval_chain h198 Cw Cn s109) (fun o194 e195 M196 h199 S214 => ?_)
     have z202 := S214.1
     have F200 := S214.2.1
     have s197 := S214.2.2
     have q201 := F200.n
     try simp only [HN] at q201
     have F203 : FrB [b45] h1 h199 := FrB.call Cf F200 (by intro j hj; simp only [List.mem_cons, List.not_mem_nil, or_false] at hj; first | (subst hj; left; simp; done) | (right; omega))
     have X := And.intro z202 (And.intro F200.box1 (And.intro F200.loop (And.intro F200.bty (And.intro F203 (And.intro s197.len X)))))
     refine Tw ?_
     refine bq_if hb rfl (fun c207 hb => ?_) (fun c207 hb => ?_)
     ·have X := And.intro c207 X
      refine Tw ?_
      refine bnd1 hb (fun r208 h209 hb => ?_)
      refine pq_eq (G_cond_truth_ok h209) ?_
      have hb := Option.some.inj hb
      subst hb
      refine Tw ?_
      exact hn _ _ o194 e195 M196 Cw Cf Cn s197 ex0
     ·have X := And.intro c207 X
      refine Tw ?_
      refine bnd1 hb (fun r211 h212 hb => ?_)
      refine pq_eq (G_cond_truth_ok h212) ?_
      have hb := Option.some.inj hb
      subst hb
      refine Tw ?_
      exact hn _ _ o194 e195 M196 Cw Cf Cn s197 ex0
   ·have X := And.intro c166 X
    refine Tw ?_
    refine bnd2 hb (fun r215 p216 h221 hb => ?_)
    try dsimp only at hb
    refine fq_mono1 (hF.cond_eval_chain h221 Cw Cn s109) (fun o217 e218 M219 h222 S246 => ?_)
    have z225 := S246.1
    have F223 := S246.2.1
    have s220 := S246.2.2
    have q224 := F223.n
    try simp only [HN] at q224
    have F226 : FrB [b45] h1 h222 := FrB.call Cf F223 (by intro j hj; simp only [List.mem_cons, List.not_mem_nil, or_false] at hj; first | (subst hj; left; simp; done) | (right; omega))
    have X := And.intro z225 (And.intro F223.box1 (And.intro F223.loop (And.intro F223.bty (And.intro F226 (And.intro s220.len X)))))
    refine Tw ?_
    refine bnd2 hb (fun r231 p232 h237 hb => ?_)
    try dsimp only at hb
    refine fq_mono1 (G_cond_eval_binary_ok h237 Cw Cn s220) (fun o233 e234 M235 h238 S245 => ?_)
    have z241 := S245.1
    have F239 := S245.2.1
    have s236 := S245.2.2
    have q240 := F239.n
    try simp only [HN] at q240
    have F242 : FrB [b45] h1 h238 := FrB.call Cf F239 (by intro j hj; simp only [List.mem_cons, List.not_mem_nil, or_false] at hj; first | (subst hj; left; simp; done) | (right; omega))
    have hb := Option.some.inj hb
    subst hb
    have X := And.intro z241 (And.intro F239.box1 (And.intro F239.loop (And.intro F239.bty (And.intro F242 (And.intro s236.len X)))))
    refine Tw ?_
    exact hn _ _ o233 e234 M235 Cw Cf Cn s236 ex0
def G_cond_eval_chain_b (F : Rec_cond_eval_choice) (p_2 : T_cond_eval) (least_9 : Int) (counts_10 : Bool) : Option (T_cond_value × T_cond_eval) :=
 F.cond_eval_unary p_2 counts_10 >>= fun (r22, p23) =>
 loopO (G_cond_eval_chain_L1 F least_9) (counts_10, p23.l_, p23.bad_, r22.v_, r22.u_) >>= fun (v254, v259, v260, v261) =>
 some ((T_cond_value.mk v260 v261), (T_cond_eval.mk v254 v259))
theorem G_cond_eval_chain_b_ok {F : Rec_cond_eval_choice} (hF : Rec_cond_eval_choice.OK F) {h1 : Heap} {b4 : Nat} {p_2 : T_cond_eval} {least_9 : Int} {counts_10 : Bool} {o5 : Own} {e6 : Nat} {M7 : List (List PV)} {r11 : T_cond_value} {r12 : T_cond_eval} (hx : G_cond_eval_chain_b F p_2 least_9 counts_10 = some (r11, r12)) (z17 : h1.box b4 = some [(.slice o5 e6 M7), (.bool p_2.bad_)]) (w18 : b4 < h1.n) (s8 : SlR 6 T_api_Tok.R o5 e6 p_2.l_ M7) : CallC E (.func 60 [] []) [(.ptr b4 0), (.int .i64 least_9), (.bool counts_10)] h1 (fun v h19 => ∃ o13 e14 M15, v = (.agg [(.int .u64 r11.v_), (.bool r11.u_)]) ∧ h19.box b4 = some [(.slice o13 e14 M15), (.bool r12.bad_)] ∧ FrB [b4] h1 h19 ∧ SlR 6 T_api_Tok.R o13 e14 r12.l_ M15) := by
 refine callE_ok fn_cond_eval_chain rfl ?_
 have hb := hx
 dsimp only [G_cond_eval_chain_b] at hb
 have X := And.intro z17 (s8.len)
 refine Tw ?_
 refine bnd2 hb (fun r22 p23 h28 hb => ?_)
 try dsimp only at hb
 refine fq_mono1 (hF.cond_eval_unary h28 Cw Cn s8) (fun o24 e25 M26 h29 S273 => ?_)
 have z32 := S273.1
 have F30 := S273.2.1
 have s27 := S273.2.2
 have q31 := F30.n
 try simp only [HN] at q31
 have F33 : FrB [b4] h1 h29 := FrB.call Cf F30 (by intro j hj; simp only [List.mem_cons, List.not_mem_nil, or_false] at hj; first | (subst hj; left; simp; done) | (right; omega))
 have X := And.intro z32 (And.intro F30.box1 (And.intro F30.loop (And.intro F30.bty (And.intro F33 (And.intro s27.len X)))))
 refine Tw ?_
 refine bnd1 hb (fun q263 h264 hb => ?_)
 refine G_cond_eval_chain_L1_ok (v53 := (0 : Int)) (v54 := false) (b45 := b4) (b52 := h1.n) (b55 := h29.n) (h1 := h1) hF _ _ _ _ _ _ h264 _ _ o24 e25 M26 Cw Cf Cn s27 ?_
 ·intro f249 h250 v254 v259 v260 v261 o255 e256 M257 ex Y251 Y253 s258
  subst ex
  try dsimp only at hb
  have hb := Option.some.inj hb
  obtain ⟨e0, e1⟩ := Prod.mk.inj hb
  subst e0
  subst e1
  have X := And.intro Y251 (And.intro s258.len X)
  refine Tw ?_
  exact endHI ⟨o255, e256, M257, rfl, Cw, Cf, s258⟩
def G_cond_eval_unary_b (F : Rec_cond_eval_choice) (p_2 : T_cond_eval) (counts_9 : Bool) : Option (T_cond_value × T_cond_eval) :=
 G_cond_eval_take p_2 ([43] : Bytes) >>= fun (r21, p22) =>
 if r21 then
  F.cond_eval_unary p22 counts_9 >>= fun (r35, p36) =>
  some (r35, p36)
 else
  G_cond_eval_take p22 ([45] : Bytes) >>= fun (r50, p51) =>
  if r50 then
   F.cond_eval_unary p51 counts_9 >>= fun (r64, p65) =>
   some ((T_cond_value.mk (IntKind.wrap .u64 (0 - r64.v_)) r64.u_), p65)
  else
   G_cond_eval_take p51 ([126] : Bytes) >>= fun (r82, p83) =>
   if r82 then
    F.cond_eval_unary p83 counts_9 >>= fun (r96, p97) =>
    some ((T_cond_value.mk (bxor .u64 (if IntKind.signed .u64 = true then -1 else IntKind.max .u64) r96.v_) r96.u_), p97)
   else
    G_cond_eval_take p83 ([33] : Bytes) >>= fun (r114, p115) =>
    if r114 then
     F.cond_eval_unary p115 counts_9 >>= fun (r128, p129) =>
     G_cond_truth (r128.v_ == (0 : Int)) >>= fun r141 =>
     some (r141, p129)
    else
     F.cond_eval_atom p115 counts_9 >>= fun (r145, p146) =>
     some (r145, p146)
theorem G_cond_eval_unary_b_ok {F : Rec_cond_eval_choice} (hF : Rec_cond_eval_choice.OK F) {h1 : Heap} {b4 : Nat} {p_2 : T_cond_eval} {counts_9 : Bool} {o5 : Own} {e6 : Nat} {M7 : List (List PV)} {r10 : T_cond_value} {r11 : T_cond_eval} (hx : G_cond_eval_unary_b F p_2 counts_9 = some (r10, r11)) (z16 : h1.box b4 = some [(.slice o5 e6 M7), (.bool p_2.bad_)]) (w17 : b4 < h1.n) (s8 : SlR 6 T_api_Tok.R o5 e6 p_2.l_ M7) : CallC E (.func 86 [] []) [(.ptr b4 0), (.bool counts_9)] h1 (fun v h18 => ∃ o12 e13 M14, v = (.agg [(.int .u64 r10.v_), (.bool r10.u_)]) ∧ h18.box b4 = some [(.slice o12 e13 M14), (.bool r11.bad_)] ∧ FrB [b4] h1 h18 ∧ SlR 6 T_api_Tok.R o12 e13 r11.l_ M14) := by
 refine callE_ok fn_cond_eval_unary rfl ?_
 have hb := hx
 dsimp only [G_cond_eval_unary_b] at hb
 have X := And.intro z16 (s8.len)
 refine Tw ?_
 refine bnd2 hb (fun r21 p22 h27 hb => ?_)
 try dsimp only at hb
 refine fq_mono1 (G_cond_eval_take_ok h27 Cw Cn s8) (fun o23 e24 M25 h28 S163 => ?_)
 have z31 := S163.1
 have F29 := S163.2.1
 have s26 := S163.2.2
 have q30 := F29.n
 try simp only [HN] at q30
 have F32 : FrB [b4] h1 h28 := FrB.call Cf F29 (by intro j hj; simp only [List.mem_cons, List.not_mem_nil, or_false] at hj; first | (subst hj; left; simp; done) | (right; omega))
 have X := And.intro z31 (And.intro F29.box1 (And.intro F29.loop (And.intro F29.bty (And.intro F32 (And.intro s26.len X)))))
 refine Tw ?_
 refine bq_if hb rfl (fun c34 hb => ?_) (fun c34 hb => ?_)
 ·have X := And.intro c34 X
  refine Tw ?_
  refine bnd2 hb (fun r35 p36 h41 hb => ?_)
  try dsimp only at hb
  refine fq_mono1 (hF.cond_eval_unary h41 Cw Cn s26) (fun o37 e38 M39 h42 S49 => ?_)
  have z45 := S49.1
  have F43 := S49.2.1
  have s40 := S49.2.2
  have q44 := F43.n
  try simp only [HN] at q44
  have F46 : FrB [b4] h1 h42 := FrB.call Cf F43 (by intro j hj; simp only [List.mem_cons, List.not_mem_nil, or_false] at hj; first | (subst hj; left; simp; done) | (right; omega))
  have hb := Option.some.inj hb
  obtain ⟨e0, e1⟩ := Prod.mk.inj hb
  subst e0
  subst e1
  have X := And.intro z45 (And.intro F43.box1 (And.intro F43.loop (And.intro F43.bty (And.intro F46 (And.intro s40.len X)))))
  refine Tw ?_
  exact endHI ⟨o37, e38, M39, rfl, Cw, Cf, s40⟩
 ·have X := And.intro c34 X
  refine Tw ?_
  refine bnd2 hb (fun r50 p51 h56 hb => ?_)
  try dsimp only at hb
  refine fq_mono1 (G_cond_eval_take_ok h56 Cw Cn s26) (fun o52 e53 M54 h57 S162 => ?_)
  have z60 := S162.1
  have F58 := S162.2.1
  have s55 := S162.2.2
  have q59 := F58.n
  try simp only [HN] at q59
  have F61 : FrB [b4] h1 h57 := FrB.call Cf F58 (by intro j hj; simp only [List.mem_cons, List.not_mem_nil, or_false] at hj; first | (subst hj; left; simp; done) | (right; omega))
  have X := And.intro z60 (And.intro F58.box1 (And.intro F58.loop (And.intro F58.bty (And.intro F61 (And.intro s55.len X)))))
  refine Tw ?_
  refine bq_if hb rfl (fun c63 hb => ?_) (fun c63 hb => ?_)
  ·have X := And.intro c63 X
   refine Tw ?_
   refine bnd2 hb (fun r64 p65 h70 hb => ?_)
   try dsimp only at hb
   refine fq_mono1 (hF.cond_eval_unary h70 Cw Cn s55) (fun o66 e67 M68 h71 S81 => ?_)
   have z74 := S81.1
   have F72 := S81.2.1
   have s69 := S81.2.2
   have q73 := F72.n
   try simp only [HN] at q73
   have F75 : FrB [b4] h1 h71 := FrB.call Cf F72 (by intro j hj; simp only [List.mem_cons, List.not_mem_nil, or_false] at hj; first | (subst hj; left; simp; done) | (right; omega))
   have hb := Option.some.inj hb
   obtain ⟨e0, e1⟩ := Prod.mk.inj hb
   subst e0
   subst e1
   have X := And.intro z74 (And.intro F72.box1 (And.intro F72.loop (And.intro F72.bty (And.intro F75 (And.intro s69.len X)))))
   refine Tw ?_
   exact endHI ⟨o66, e67, M68, rfl, Cw, Cf, s69⟩
  ·have X := And.intro c63 X
   refine Tw ?_
   refine bnd2 hb (fun r82 p83 h88 hb => ?_)
   try dsimp only at hb
   refine fq_mono1 (G_cond_eval_take_ok h88 Cw Cn s55) (fun o84 e85 M86 h89 S161 => ?_)
   have z92 := S161.1
   have F90 := S161.2.1
   have s87 := S161.2.2
   have q91 := F90.n
   try simp only [HN] at q91
   have F93 : FrB [b4] h1 h89 := FrB.call Cf F90 (by intro j hj; simp only [List.mem_cons, List.not_mem_nil, or_false] at hj; first | (subst hj; left; simp; done) | (right; omega))
   have X := And.intro z92 (And.intro F90.box1 (And.intro F90.loop (And.intro F90.bty (And.intro F93 (And.intro s87.len X)))))
   refine Tw ?_
   refine bq_if hb rfl (fun c95 hb => ?_) (fun c95 hb => ?_)
   ·have X := And.intro c95 X
    refine Tw ?_
    refine bnd2 hb (fun r96 p97 h102 hb => ?_)
    try dsimp only at hb
    refine fq_mono1 (hF.cond_eval_unary h102 Cw Cn s87) (fun o98 e99 M100 h103 S113 => ?_)
    have z106 := S113.1
    have F104 := S113.2.1
    have s101 := S113.2.2
    have q105 := F104.n
    try simp only [HN] at q105
    have F107 : FrB [b4] h1 h103 := FrB.call Cf F104 (by intro j hj; simp only [List.mem_cons, List.not_mem_nil, or_false] at hj; first | (subst hj; left; simp; done) | (right; omega))
    have hb := Option.some.inj hb
    obtain ⟨e0, e1⟩ := Prod.mk.inj hb
    subst e0
    subst e1
    have X := And.intro z106 (And.intro F104.box1 (And.intro F104.loop (And.intro F104.bty (And.intro F107 (And.intro s101.len X)))))
    refine Tw ?_
    exact endHI ⟨o98, e99, M100, rfl, Cw, Cf, s101⟩
   ·have X := And.intro c95 X
    refine Tw ?_
    refine bnd2 hb (fun r114 p115 h120 hb => ?_)
    try dsimp only at hb
    refine fq_mono1 (G_cond_eval_take_ok h120 Cw Cn s87) (fun o116 e117 M118 h121 S160 => ?_)
    have z124 := S160.1
    have F122 := S160.2.1
    have s119 := S160.2.2
    have q123 := F122.n
    try simp only [HN] at q123
    have F125 : FrB [b4] h1 h121 := FrB.call Cf F122 (by intro j hj; simp only [List.mem_cons, List.not_mem_nil, or_false] at hj; first | (subst hj; left; simp; done) | (right; omega))
    have X := And.intro z124 (And.intro F122.box1 (And.intro F122.loop (And.intro F122.bty (And.intro F125 (And.intro s119.len X)))))
    refine Tw ?_
    refine bq_if hb rfl (fun c127 hb => ?_) (fun c127 hb => ?_)
    ·have X := And.intro c127 X
     refine Tw ?_
     refine bnd2 hb (fun r128 p129 h134 hb => ?_)
     try dsimp only at hb
     refine fq_mono1 (hF.cond_eval_unary h134 Cw Cn s119) (fun o130 e131 M132 h135 S144 => ?_)
     have z138 := S144.1
     have F136 := S144.2.1
     have s133 := S144.2.2
     have q137 := F136.n
     try simp only [HN] at q137
     have F139 : FrB [b4] h1 h135 := FrB.call Cf F136 (by intro j hj; simp only [List.mem_cons, List.not_mem_nil, or_false] at hj; first | (subst hj; left; simp; done) | (right; omega))
     have X := And.intro z138 (And.intro F136.box1 (And.intro F136.loop (And.intro F136.bty (And.intro F139 (And.intro s133.len X)))))
     refine Tw ?_
     refine bnd1 hb (fun r141 h142 hb => ?_)
     refine pq_eq (G_cond_truth_ok h142) ?_
     have hb := Option.some.inj hb
     obtain ⟨e0, e1⟩ := Prod.mk.inj hb
     subst e0
     subst e1
     refine Tw ?_
     exact endHI ⟨o130, e131, M132, rfl, Cw, Cf, s133⟩
    ·have X := And.intro c127 X
     refine Tw ?_
     refine bnd2 hb (fun r145 p146 h151 hb => ?_)
     try dsimp only at hb
     refine fq_mono1 (hF.cond_eval_atom h151 Cw Cn s119) (fun o147 e148 M149 h152 S159 => ?_)
     have z155 := S159.1
     have F153 := S159.2.1
     have s150 := S159.2.2
     have q154 := F153.n
     try simp only [HN] at q154
     have F156 : FrB [b4] h1 h152 := FrB.call Cf F153 (by intro j hj; simp only [List.mem_cons, List.not_mem_nil, or_false] at hj; first | (subst hj; left; simp; done) | (right; omega))
     have hb := Option.some.inj hb
     obtain ⟨e0, e1⟩ := Prod.mk.inj hb
     subst e0
     subst e1
     have X := And.intro z155 (And.intro F153.box1 (And.intro F153.loop (And.intro F153.bty (And.intro F156 (And.intro s150.len X)))))
     refine Tw ?_
     exact endHI ⟨o147, e148, M149, rfl, Cw, Cf, s150⟩
def G_cond_isSuffix (s_2 : Bytes) : Option (Bool × Bool) :=
 oToLower s_2 >>= fun r5 =>
 (
  if (r5 == ([] : Bytes)) then
   some true
  else
   if (r5 == ([117] : Bytes)) then
    some true
   else
    if (r5 == ([108] : Bytes)) then
     some true
    else
     if (r5 == ([108, 108] : Bytes)) then
      some true
     else
      if (r5 == ([117, 108] : Bytes)) then
       some true
      else
       if (r5 == ([117, 108, 108] : Bytes)) then
        some true
       else
        if (r5 == ([108, 117] : Bytes)) then
         some true
        else
         some (r5 == ([108, 108, 117] : Bytes))
 ) >>= fun v17 =>
 if v17 then
  oContains s_2 ([108, 76] : Bytes) >>= fun r28 =>
  if (!r28) then
   oContains s_2 ([76, 108] : Bytes) >>= fun r31 =>
   oContains r5 ([117] : Bytes) >>= fun r33 =>
   some ((!r31), r33)
  else
   oContains r5 ([117] : Bytes) >>= fun r35 =>
   some (false, r35)
 else
  some (false, false)
theorem G_cond_isSuffix_ok {s_2 : Bytes} {r3 : Bool} {r4 : Bool} (hx : G_cond_isSuffix s_2 = some (r3, r4)) : PureE E 43 [(.str s_2)] (fun v => v = (.tuple [(.bool r3), (.bool r4)])) := by
 refine pureE_ok fn_cond_isSuffix rfl ?_
 have hb := hx
 dsimp only [G_cond_isSuffix] at hb
 have X := True.intro
 refine Tw ?_
 refine bnd1 hb (fun r5 h6 hb => ?_)
 refine hq_ToLower h6 ?_
 refine Tw ?_
 refine bnd1 hb (fun j23 hj hb => ?_)
 refine wq_joinF (fun Z => ∀ (f18 : Fr) (v17 : Bool), v17 = j23 → (f18 0 = (.str s_2) ∧ f18 4 = (.str r5) ∧ f18 8 = (.bool v17)) → Z f18) (fun Z hX9 => ?_) ?_
 ·have hr8 := hb
  clear hb
  have hb := hj
  clear hj
  refine wq_def J_cond_isSuffix_1.eq_1 ?_
  refine Tw ?_
  refine Tw ?_
  refine bq_if hb rfl (fun c10 hb => ?_) (fun c10 hb => ?_)
  ·have hb := Option.some.inj hb
   subst hb
   have X := And.intro c10 X
   refine Tw ?_
   exact hX9 _ true rfl Cw
  ·have X := And.intro c10 X
   refine Tw ?_
   refine bq_if hb rfl (fun c11 hb => ?_) (fun c11 hb => ?_)
   ·have hb := Option.some.inj hb
    subst hb
    have X := And.intro c11 X
    refine Tw ?_
    exact hX9 _ true rfl Cw
   ·have X := And.intro c11 X
    refine Tw ?_
    refine bq_if hb rfl (fun c12 hb => ?_) (fun c12 hb => ?_)
    ·have hb := Option.some.inj hb
     subst hb
     have X := And.intro c12 X
     refine Tw ?_
     exact hX9 _ true rfl Cw
    ·have X := And.intro c12 X
     refine Tw ?_
     refine bq_if hb rfl (fun c13 hb => ?_) (fun c13 hb => ?_)
     ·have hb := Option.some.inj hb
      subst hb
      have X := And.intro c13 X
      refine Tw ?_
      exact hX9 _ true rfl Cw
     ·have X := And.intro c13 X
      refine Tw ?_
      refine bq_if hb rfl (fun c14 hb => ?_) (fun c14 hb => ?_)
      ·have hb := Option.some.inj hb
       subst hb
       have X := And.intro c14 X
       refine Tw ?_
       exact hX9 _ true rfl Cw
      ·have X := And.intro c14 X
       refine Tw ?_
       refine bq_if hb rfl (fun c15 hb => ?_) (fun c15 hb => ?_)
       ·have hb := Option.some.inj hb
        subst hb
        have X := And.intro c15 X
        refine Tw ?_
        exact hX9 _ true rfl Cw
       ·have X := And.intro c15 X
        refine Tw ?_
        refine bq_if hb rfl (fun c16 hb => ?_) (fun c16 hb => ?_)
        ·have hb := Option.some.inj hb
         subst hb
         have X := And.intro c16 X
         refine Tw ?_
         exact hX9 _ true rfl Cw
        ·have hb := Option.some.inj hb
         subst hb
         have X := And.intro c16 X
         refine Tw ?_
         exact hX9 _ (r5 == ([108, 108, 117] : Bytes)) rfl Cw
 ·intro f18 v17 ej Y20
  subst ej
  try dsimp only at hb
  have X := And.intro Y20 X
  refine Tw ?_
  refine bq_if hb rfl (fun c27 hb => ?_) (fun c27 hb => ?_)
  ·have X := And.intro c27 X
   refine Tw ?_
   refine bnd1 hb (fun r28 h29 hb => ?_)
   refine hq_Contains h29 ?_
   refine Tw ?_
   refine bq_if hb rfl (fun c30 hb => ?_) (fun c30 hb => ?_)
   ·have X := And.intro c30 X
    refine Tw ?_
    refine bnd1 hb (fun r31 h32 hb => ?_)
    refine hq_Contains h32 ?_
    refine Tw ?_
    refine bnd1 hb (fun r33 h34 hb => ?_)
    refine hq_Contains h34 ?_
    have hb := Option.some.inj hb
    obtain ⟨e0, e1⟩ := Prod.mk.inj hb
    subst e0
    subst e1
    refine Tw ?_
    exact endI rfl
   ·have X := And.intro c30 X
    refine Tw ?_
    refine bnd1 hb (fun r35 h36 hb => ?_)
    refine hq_Contains h36 ?_
    have hb := Option.some.inj hb
    obtain ⟨e0, e1⟩ := Prod.mk.inj hb
    subst e0
    subst e1
    refine Tw ?_
    exact endI rfl
  ·have hb := Option.some.inj hb
   obtain ⟨e0, e1⟩ := Prod.mk.inj hb
   subst e0
   subst e1
   have X := And.intro c27 X
   refine Tw ?_
   exact endI rfl
def G_internal_strconv_lower (c_2 : Int) : Option (Int) :=
 some (bor .u8 c_2 (32 : Int))
theorem G_internal_strconv_lower_ok {c_2 : Int} {r3 : Int} (hx : G_internal_strconv_lower c_2 = some r3) : PureE E 108 [(.int .u8 c_2)] (fun v => v = (.int .u8 r3)) := by
 refine pureE_ok fn_internal_strconv_lower rfl ?_
 have hb := hx
 dsimp only [G_internal_strconv_lower] at hb
 have hb := Option.some.inj hb
 subst hb
 have X := True.intro
 refine Tw ?_
 exact endI rfl
def G_internal_strconv_underscoreOK_L1 (s_73 : Bytes) : Int × Int × Bool → Option ((Int × Int × Bool) ⊕ (Ex2 (Unit) (Int))) := fun (saw_74, i_75, hex_76) =>
 if (decide (i_75 < ((List.length s_73 : Nat) : Int))) then
  (
   idx s_73 i_75 >>= fun x92 =>
   if (decide ((48 : Int) ≤ (x92.toNat : Int))) then
    idx s_73 i_75 >>= fun x94 =>
    if (decide ((x94.toNat : Int) ≤ (57 : Int))) then
     some (Ex2.a (Sum.inl ((48 : Int), (IntKind.wrap .i64 (i_75 + (1 : Int))), hex_76)))
    else
     if hex_76 then
      idx s_73 i_75 >>= fun x98 =>
      G_internal_strconv_lower (x98.toNat : Int) >>= fun r99 =>
      if (decide ((97 : Int) ≤ r99)) then
       idx s_73 i_75 >>= fun x102 =>
       G_internal_strconv_lower (x102.toNat : Int) >>= fun r103 =>
       if (decide (r103 ≤ (102 : Int))) then
        some (Ex2.a (Sum.inl ((48 : Int), (IntKind.wrap .i64 (i_75 + (1 : Int))), true)))
       else
        some (Ex2.b true)
      else
       some (Ex2.b true)
     else
      some (Ex2.b false)
   else
    if hex_76 then
     idx s_73 i_75 >>= fun x108 =>
     G_internal_strconv_lower (x108.toNat : Int) >>= fun r109 =>
     if (decide ((97 : Int) ≤ r109)) then
      idx s_73 i_75 >>= fun x112 =>
      G_internal_strconv_lower (x112.toNat : Int) >>= fun r113 =>
      if (decide (r113 ≤ (102 : Int))) then
       some (Ex2.a (Sum.inl ((48 : Int), (IntKind.wrap .i64 (i_75 + (1 : Int))), true)))
      else
       some (Ex2.b true)
     else
      some (Ex2.b true)
    else
     some (Ex2.b false)
  ) >>= fun j123 => match j123 with
   | .a q => some q
   | .b hex_117 =>
    idx s_73 i_75 >>= fun x128 =>
    if ((x128.toNat : Int) == (95 : Int)) then
     if (!(saw_74 == (48 : Int))) then
      some (Sum.inr (Ex2.a ()))
     else
      some (Sum.inl ((95 : Int), (IntKind.wrap .i64 (i_75 + (1 : Int))), hex_117))
    else
     if (saw_74 == (95 : Int)) then
      some (Sum.inr (Ex2.a ()))
     else
      some (Sum.inl ((33 : Int), (IntKind.wrap .i64 (i_75 + (1 : Int))), hex_117))
 else
  some (Sum.inr (Ex2.b saw_74))
theorem G_internal_strconv_underscoreOK_L1_ok {κ : Kt} {t : Blk κ} {s_73 : Bytes} {h78 : Heap} (saw_74 : Int) (i_75 : Int) (hex_76 : Bool) (x : Ex2 (Unit) (Int)) (hx : loopO (G_internal_strconv_underscoreOK_L1 s_73) (saw_74, i_75, hex_76) = some x) (hh : True) (ho : True) : ∀ (f77 : Fr), (f77 0 = (.str s_73) ∧ f77 3 = (.int .i32 saw_74) ∧ f77 4 = (.int .i64 i_75) ∧ f77 5 = (.bool hex_76)) → (∀ (f132 : Fr), Ex2.a () = x → (f132 2 = (.bool false)) → κ.R f132 h78) → (∀ (f138 : Fr) (saw_137 : Int), Ex2.b saw_137 = x → (f138 3 = (.int .i32 saw_137)) → κ.B 0 f138 h78) → Lq E (.loop L_internal_strconv_underscoreOK_1) κ t f77 h78 := by
 revert saw_74 i_75 hex_76 x
 refine loop3' ?_
 intro saw_74 i_75 hex_76 r hb x hn f77  Y79  ex0 ex1
 dsimp only [G_internal_strconv_underscoreOK_L1] at hb
 refine loop_step L_internal_strconv_underscoreOK_1.eq_1 ?_
 have X := Y79
 refine Tw ?_
 refine Tw ?_
 refine bq_if hb rfl (fun c88 hb => ?_) (fun c88 hb => ?_)
 ·have X := And.intro c88 X
  refine Tw ?_
  refine bnd1 hb (fun j123 hj hb => ?_)
  refine wq_joinF (fun Z => ∀ (f118 : Fr) (hex_117 : Bool), Ex2.b hex_117 = j123 → (f118 0 = (.str s_73) ∧ f118 3 = (.int .i32 saw_74) ∧ f118 4 = (.int .i64 i_75) ∧ f118 5 = (.bool hex_117)) → Z f118) (fun Z hX91 => ?_) ?_
  ·have hr90 := hb
   clear hb
   have hb := hj
   clear hj
   refine wq_def J_internal_strconv_underscoreOK_4.eq_1 ?_
   refine Tw ?_
   refine Tw ?_
   refine vq_idxS hb (fun x92 hx92 hb => ?_)
   refine Tw ?_
   refine bq_if hb rfl (fun c93 hb => ?_) (fun c93 hb => ?_)
   ·have X := And.intro c93 X
    refine Tw ?_
    refine vq_idxS hb (fun x94 hx94 hb => ?_)
    refine Tw ?_
    refine bq_if hb rfl (fun c95 hb => ?_) (fun c95 hb => ?_)
    ·have hq := Option.some.inj hb
     subst hq
     try dsimp only at hr90
     have hb := hr90
     have hb := Option.some.inj hb
     subst hb
     have X := And.intro c95 X
     refine Tw ?_
     exact hn _  Cw ex0 ex1
    ·have X := And.intro c95 X
     refine Tw ?_
     refine bq_if hb rfl (fun c97 hb => ?_) (fun c97 hb => ?_)
     ·have X := And.intro c97 X
      refine Tw ?_
      refine vq_idxS hb (fun x98 hx98 hb => ?_)
      refine Tw ?_
      refine bnd1 hb (fun r99 h100 hb => ?_)
      refine pq_eq (G_internal_strconv_lower_ok h100) ?_
      refine Tw ?_
      refine bq_if hb rfl (fun c101 hb => ?_) (fun c101 hb => ?_)
      ·have X := And.intro c101 X
       refine Tw ?_
       refine vq_idxS hb (fun x102 hx102 hb => ?_)
       refine Tw ?_
       refine bnd1 hb (fun r103 h104 hb => ?_)
       refine pq_eq (G_internal_strconv_lower_ok h104) ?_
       refine Tw ?_
       refine bq_if hb rfl (fun c105 hb => ?_) (fun c105 hb => ?_)
       ·have hq := Option.some.inj hb
        subst hq
        try dsimp only at hr90
        have hb := hr90
        have hb := Option.some.inj hb
        subst hb
        have X := And.intro c105 X
        refine Tw ?_
        exact hn _  Cw ex0 ex1
       ·have hb := Option.some.inj hb
        subst hb
        have X := And.intro c105 X
        refine Tw ?_
        exact hX91 _ true rfl Cw
      ·have hb := Option.some.inj hb
       subst hb
       have X := And.intro c101 X
       refine Tw ?_
       exact hX91 _ true rfl Cw
     ·have hb := Option.some.inj hb
      subst hb
      have X := And.intro c97 X
      refine Tw ?_
      exact hX91 _ false rfl Cw
   ·have X := And.intro c93 X
    refine Tw ?_
    refine bq_if hb rfl (fun c107 hb => ?_) (fun c107 hb => ?_)
    ·have X := And.intro c107 X
     refine Tw ?_
     refine vq_idxS hb (fun x108 hx108 hb => ?_)
     refine Tw ?_
     refine bnd1 hb (fun r109 h110 hb => ?_)
     refine pq_eq (G_internal_strconv_lower_ok h110) ?_
     refine Tw ?_
     refine bq_if hb rfl (fun c111 hb => ?_) (fun c111 hb => ?_)
     ·have X := And.intro c111 X
      refine Tw ?_
      refine vq_idxS hb (fun x112 hx112 hb => ?_)
      refine Tw ?_
      refine bnd1 hb (fun r113 h114 hb => ?_)
      refine pq_eq (G_internal_strconv_lower_ok h114) ?_
      refine Tw ?_
      refine bq_if hb rfl (fun c115 hb => ?_) (fun c115 hb => ?_)
      ·have hq := Option.some.inj hb
       subst hq
       try dsimp only at hr90
       have hb := hr90
       have hb := Option.some.inj hb
       subst hb
       have X := And.intro c115 X
       refine Tw ?_
       exact hn _  Cw ex0 ex1
      ·have hb := Option.some.inj hb
       subst hb
       have X := And.intro c115 X
       refine Tw ?_
       exact hX91 _ true rfl Cw
     ·have hb := Option.some.inj hb
      subst hb
      have X := And.intro c111 X
      refine Tw ?_
      exact hX91 _ true rfl Cw
    ·have hb := Option.some.inj hb
     subst hb
     have X := And.intro c107 X
     refine Tw ?_
     exact hX91 _ false rfl Cw
  ·intro f118 hex_117 ej Y120
   subst ej
   try dsimp only at hb
   have X := And.intro Y120 X
   refine Tw ?_
   refine vq_idxS hb (fun x128 hx128 hb => ?_)
   refine Tw ?_
   refine bq_if hb rfl (fun c129 hb => ?_) (fun c129 hb => ?_)
   ·have X := And.intro c129 X
    refine Tw ?_
    refine bq_if hb rfl (fun c130 hb => ?_) (fun c130 hb => ?_)
    ·have hb := Option.some.inj hb
     subst hb
     have hn : _ = _ := hn
     subst hn
     have X := And.intro c130 X
     refine Tw ?_
     exact ex0 _ rfl Cw
    ·have hb := Option.some.inj hb
     subst hb
     have X := And.intro c130 X
     refine Tw ?_
     exact hn _  Cw ex0 ex1
   ·have X := And.intro c129 X
    refine Tw ?_
    refine bq_if hb rfl (fun c131 hb => ?_) (fun c131 hb => ?_)
    ·have hb := Option.some.inj hb
     subst hb
     have hn : _ = _ := hn
     subst hn
     have X := And.intro c131 X
     refine Tw ?_
     exact ex0 _ rfl Cw
    ·have hb := Option.some.inj hb
     subst hb
     have X := And.intro c131 X
     refine Tw ?_
     exact hn _  Cw ex0 ex1
 ·have hb := Option.some.inj hb
  subst hb
  have hn : _ = _ := hn
  subst hn
  have X := And.intro c88 X
  refine Tw ?_
  exact ex1 _ saw_74 rfl Cw
def G_internal_strconv_underscoreOK (s_2 : Bytes) : Option (Bool) :=
 (
  if (decide ((1 : Int) ≤ ((List.length s_2 : Nat) : Int))) then
   idx s_2 (0 : Int) >>= fun x8 =>
   if ((x8.toNat : Int) == (45 : Int)) then
    subF s_2 (1 : Int) >>= fun t10 =>
    some t10
   else
    idx s_2 (0 : Int) >>= fun x11 =>
    if ((x11.toNat : Int) == (43 : Int)) then
     subF s_2 (1 : Int) >>= fun t13 =>
     some t13
    else
     some s_2
  else
   some s_2
 ) >>= fun s_14 =>
 (
  (
   if (decide ((2 : Int) ≤ ((List.length s_14 : Nat) : Int))) then
    idx s_14 (0 : Int) >>= fun x31 =>
    if ((x31.toNat : Int) == (48 : Int)) then
     idx s_14 (1 : Int) >>= fun x33 =>
     G_internal_strconv_lower (x33.toNat : Int) >>= fun r34 =>
     if (r34 == (98 : Int)) then
      some true
     else
      idx s_14 (1 : Int) >>= fun x37 =>
      G_internal_strconv_lower (x37.toNat : Int) >>= fun r38 =>
      if (r38 == (111 : Int)) then
       some true
      else
       idx s_14 (1 : Int) >>= fun x41 =>
       G_internal_strconv_lower (x41.toNat : Int) >>= fun r42 =>
       some (r42 == (120 : Int))
    else
     some false
   else
    some false
  ) >>= fun v44 =>
  if v44 then
   idx s_14 (1 : Int) >>= fun x57 =>
   G_internal_strconv_lower (x57.toNat : Int) >>= fun r58 =>
   some ((48 : Int), (2 : Int), (r58 == (120 : Int)))
  else
   some ((94 : Int), (0 : Int), false)
 ) >>= fun (saw_60, i_61, hex_62) =>
 loopO (G_internal_strconv_underscoreOK_L1 s_14) (saw_60, i_61, hex_62) >>= fun q143 => match q143 with
  | .a _ =>
   some false
  | .b saw_137 =>
   some (!(saw_137 == (95 : Int)))
theorem G_internal_strconv_underscoreOK_ok {s_2 : Bytes} {r3 : Bool} (hx : G_internal_strconv_underscoreOK s_2 = some r3) : PureE E 109 [(.str s_2)] (fun v => v = (.bool r3)) := by
 refine pureE_ok fn_internal_strconv_underscoreOK rfl ?_
 have hb := hx
 dsimp only [G_internal_strconv_underscoreOK] at hb
 have X := True.intro
 refine Tw ?_
 refine bnd1 hb (fun j20 hj hb => ?_)
 refine wq_joinF (fun Z => ∀ (f15 : Fr) (s_14 : Bytes), s_14 = j20 → (f15 0 = (.str s_14) ∧ f15 3 = (.int .i32 (94 : Int)) ∧ f15 4 = (.int .i64 (0 : Int))) → Z f15) (fun Z hX6 => ?_) ?_
 ·have hr5 := hb
  clear hb
  have hb := hj
  clear hj
  refine wq_def J_internal_strconv_underscoreOK_1.eq_1 ?_
  refine Tw ?_
  refine Tw ?_
  refine bq_if hb rfl (fun c7 hb => ?_) (fun c7 hb => ?_)
  ·have X := And.intro c7 X
   refine Tw ?_
   refine vq_idxS hb (fun x8 hx8 hb => ?_)
   refine Tw ?_
   refine bq_if hb rfl (fun c9 hb => ?_) (fun c9 hb => ?_)
   ·have X := And.intro c9 X
    refine Tw ?_
    refine vq_subFs hb (fun t10 ht10 hb => ?_)
    have hb := Option.some.inj hb
    subst hb
    refine Tw ?_
    exact hX6 _ t10 rfl Cw
   ·have X := And.intro c9 X
    refine Tw ?_
    refine vq_idxS hb (fun x11 hx11 hb => ?_)
    refine Tw ?_
    refine bq_if hb rfl (fun c12 hb => ?_) (fun c12 hb => ?_)
    ·have X := And.intro c12 X
     refine Tw ?_
     refine vq_subFs hb (fun t13 ht13 hb => ?_)
     have hb := Option.some.inj hb
     subst hb
     refine Tw ?_
     exact hX6 _ t13 rfl Cw
    ·have hb := Option.some.inj hb
     subst hb
     have X := And.intro c12 X
     refine Tw ?_
     exact hX6 _ s_2 rfl Cw
  ·have hb := Option.some.inj hb
   subst hb
   have X := And.intro c7 X
   refine Tw ?_
   exact hX6 _ s_2 rfl Cw
 ·intro f15 s_14 ej Y17
  subst ej
  try dsimp only at hb
  have X := And.intro Y17 X
  refine Tw ?_
  refine bnd1 hb (fun j68 hj hb => ?_)
  refine wq_joinF (fun Z => ∀ (f63 : Fr) (saw_60 : Int) (i_61 : Int) (hex_62 : Bool), (saw_60, i_61, hex_62) = j68 → (f63 0 = (.str s_14) ∧ f63 3 = (.int .i32 saw_60) ∧ f63 4 = (.int .i64 i_61) ∧ f63 5 = (.bool hex_62)) → Z f63) (fun Z hX26 => ?_) ?_
  ·have hr25 := hb
   clear hb
   have hb := hj
   clear hj
   refine wq_def J_internal_strconv_underscoreOK_2.eq_1 ?_
   refine Tw ?_
   refine Tw ?_
   refine bnd1 hb (fun j50 hj hb => ?_)
   refine wq_joinF (fun Z => ∀ (f45 : Fr) (v44 : Bool), v44 = j50 → (f45 0 = (.str s_14) ∧ f45 3 = (.int .i32 (94 : Int)) ∧ f45 4 = (.int .i64 (0 : Int)) ∧ f45 5 = (.bool false) ∧ f45 46 = (.bool v44)) → Z f45) (fun Z hX29 => ?_) ?_
   ·have hr28 := hb
    clear hb
    have hb := hj
    clear hj
    refine wq_def J_internal_strconv_underscoreOK_3.eq_1 ?_
    refine Tw ?_
    refine Tw ?_
    refine bq_if hb rfl (fun c30 hb => ?_) (fun c30 hb => ?_)
    ·have X := And.intro c30 X
     refine Tw ?_
     refine vq_idxS hb (fun x31 hx31 hb => ?_)
     refine Tw ?_
     refine bq_if hb rfl (fun c32 hb => ?_) (fun c32 hb => ?_)
     ·have X := And.intro c32 X
      refine Tw ?_
      refine vq_idxS hb (fun x33 hx33 hb => ?_)
      refine Tw ?_
      refine bnd1 hb (fun r34 h35 hb => ?_)
      refine pq_eq (G_internal_strconv_lower_ok h35) ?_
      refine Tw ?_
      refine bq_if hb rfl (fun c36 hb => ?_) (fun c36 hb => ?_)
      ·have hb := Option.some.inj hb
       subst hb
       have X := And.intro c36 X
       refine Tw ?_
       exact hX29 _ true rfl Cw
      ·have X := And.intro c36 X
       refine Tw ?_
       refine vq_idxS hb (fun x37 hx37 hb => ?_)
       refine Tw ?_
       refine bnd1 hb (fun r38 h39 hb => ?_)
       refine pq_eq (G_internal_strconv_lower_ok h39) ?_
       refine Tw ?_
       refine bq_if hb rfl (fun c40 hb => ?_) (fun c40 hb => ?_)
       ·have hb := Option.some.inj hb
        subst hb
        have X := And.intro c40 X
        refine Tw ?_
        exact hX29 _ true rfl Cw
       ·have X := And.intro c40 X
        refine Tw ?_
        refine vq_idxS hb (fun x41 hx41 hb => ?_)
        refine Tw ?_
        refine bnd1 hb (fun r42 h43 hb => ?_)
        refine pq_eq (G_internal_strconv_lower_ok h43) ?_
        have hb := Option.some.inj hb
        subst hb
        refine Tw ?_
        exact hX29 _ (r42 == (120 : Int)) rfl Cw
     ·have hb := Option.some.inj hb
      subst hb
      have X := And.intro c32 X
      refine Tw ?_
      exact hX29 _ false rfl Cw
    ·have hb := Option.some.inj hb
     subst hb
     have X := And.intro c30 X
     refine Tw ?_
     exact hX29 _ false rfl Cw
   ·intro f45 v44 ej Y47
    subst ej
    try dsimp only at hb
    have X := And.intro Y47 X
    refine Tw ?_
    refine bq_if hb rfl (fun c56 hb => ?_) (fun c56 hb => ?_)
    ·have X := And.intro c56 X
     refine Tw ?_
     refine vq_idxS hb (fun x57 hx57 hb => ?_)
     refine Tw ?_
     refine bnd1 hb (fun r58 h59 hb => ?_)
     refine pq_eq (G_internal_strconv_lower_ok h59) ?_
     have hb := Option.some.inj hb
     subst hb
     refine Tw ?_
     exact hX26 _ (48 : Int) (2 : Int) (r58 == (120 : Int)) rfl Cw
    ·have hb := Option.some.inj hb
     subst hb
     have X := And.intro c56 X
     refine Tw ?_
     exact hX26 _ (94 : Int) (0 : Int) false rfl Cw
  ·intro f63 saw_60 i_61 hex_62 ej Y65
   subst ej
   try dsimp only at hb
   have X := And.intro Y65 X
   refine Tw ?_
   refine bnd1 hb (fun q143 h144 hb => ?_)
   refine G_internal_strconv_underscoreOK_L1_ok _ _ _ _ h144 trivial trivial _ Cw ?_ ?_
   ·intro f132 ex Y134
    subst ex
    try dsimp only at hb
    have hb := Option.some.inj hb
    subst hb
    have X := And.intro Y134 X
    refine Tw ?_
    exact endI rfl
   ·intro f138 saw_137 ex Y140
    subst ex
    try dsimp only at hb
    have hb := Option.some.inj hb
    subst hb
    have X := And.intro Y140 X
    refine Tw ?_
    exact endI rfl
end Go.Proofs.YtmngkcpobmhnoaaGreatDoor.Sim
