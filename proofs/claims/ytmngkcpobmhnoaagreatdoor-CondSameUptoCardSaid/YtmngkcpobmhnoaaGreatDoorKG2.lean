/- Printed functions, continued. -/
import Derived.Test.YtmngkcpobmhnoaaGreatDoorKG1
set_option linter.all false
set_option maxHeartbeats 4000000
set_option maxRecDepth 20000
namespace Go.Proofs.YtmngkcpobmhnoaaGreatDoor.Sim
theorem G_cond_Number_ok {s_2 : Bytes} {r3 : Int} {r4 : Bool} {r5 : Int} (hx : G_cond_Number s_2 = some (r3, r4, r5)) : PureE E 29 [(.str s_2)] (fun v => v = (.tuple [(.int .u64 r3), (.bool r4), (.int .i64 r5)])) := by
 refine pureE_ok fn_cond_Number rfl ?_
 have hb := hx
 dsimp only [G_cond_Number] at hb
 have X := True.intro
 refine Tw ?_
 refine bnd1 hb (fun j36 hj hb => ?_)
 refine wq_joinF (fun Z => ∀ (f31 : Fr) (base_28 : Int) (digits_29 : Bytes) (t_30 : Bytes), (base_28, digits_29, t_30) = j36 → (f31 5 = (.int .i64 base_28) ∧ f31 6 = (.str digits_29) ∧ f31 7 = (.str t_30)) → Z f31) (fun Z hX8 => ?_) ?_
 ·have hr7 := hb
  clear hb
  have hb := hj
  clear hj
  refine wq_def J_cond_Number_1.eq_1 ?_
  refine Tw ?_
  refine Tw ?_
  refine bnd1 hb (fun j19 hj hb => ?_)
  refine wq_joinF (fun Z => ∀ (f14 : Fr) (v13 : Bool), v13 = j19 → (f14 0 = (.str s_2) ∧ f14 5 = (.int .i64 (10 : Int)) ∧ f14 6 = (.str ([48, 49, 50, 51, 52, 53, 54, 55, 56, 57] : Bytes)) ∧ f14 7 = (.str s_2) ∧ f14 14 = (.bool v13)) → Z f14) (fun Z hX11 => ?_) ?_
  ·have hr10 := hb
   clear hb
   have hb := hj
   clear hj
   refine wq_def J_cond_Number_2.eq_1 ?_
   refine Tw ?_
   refine Tw ?_
   refine bq_if hb rfl (fun c12 hb => ?_) (fun c12 hb => ?_)
   ·have hb := Option.some.inj hb
    subst hb
    have X := And.intro c12 X
    refine Tw ?_
    exact hX11 _ true rfl Cw
   ·have hb := Option.some.inj hb
    subst hb
    have X := And.intro c12 X
    refine Tw ?_
    exact hX11 _ (Lib.hasPrefix s_2 ([48, 88] : Bytes)) rfl Cw
  ·intro f14 v13 ej Y16
   subst ej
   try dsimp only at hb
   have X := And.intro Y16 X
   refine Tw ?_
   refine bq_if hb rfl (fun c25 hb => ?_) (fun c25 hb => ?_)
   ·have X := And.intro c25 X
    refine Tw ?_
    refine vq_subFs hb (fun t26 ht26 hb => ?_)
    have hb := Option.some.inj hb
    subst hb
    refine Tw ?_
    exact hX8 _ (16 : Int) ([48, 49, 50, 51, 52, 53, 54, 55, 56, 57, 97, 98, 99, 100, 101, 102, 65, 66, 67, 68, 69, 70] : Bytes) t26 rfl Cw
   ·have X := And.intro c25 X
    refine Tw ?_
    refine bq_if hb rfl (fun c27 hb => ?_) (fun c27 hb => ?_)
    ·have hb := Option.some.inj hb
     subst hb
     have X := And.intro c27 X
     refine Tw ?_
     exact hX8 _ (8 : Int) ([48, 49, 50, 51, 52, 53, 54, 55] : Bytes) s_2 rfl Cw
    ·have hb := Option.some.inj hb
     subst hb
     have X := And.intro c27 X
     refine Tw ?_
     exact hX8 _ (10 : Int) ([48, 49, 50, 51, 52, 53, 54, 55, 56, 57] : Bytes) s_2 rfl Cw
 ·intro f31 base_28 digits_29 t_30 ej Y33
  subst ej
  try dsimp only at hb
  have X := And.intro Y33 X
  refine Tw ?_
  refine bnd1 hb (fun r40 h41 hb => ?_)
  refine hq_cutLeft h41 ?_
  refine Tw ?_
  refine vq_subTs hb (fun t42 ht42 hb => ?_)
  refine Tw ?_
  refine bnd2 hb (fun r43 r44 h45 hb => ?_)
  try dsimp only at hb
  refine pq_eq (G_cond_isSuffix_ok h45) ?_
  refine Tw ?_
  refine bnd2 hb (fun r46 r47 h48 hb => ?_)
  try dsimp only at hb
  refine pq_eq (G_strconv_ParseUint_ok h48) ?_
  refine Tw ?_
  refine bnd1 hb (fun j61 hj hb => ?_)
  refine wq_joinF (fun Z => ∀ (f56 : Fr), Ex2.b () = j61 → (f56 5 = (.int .i64 base_28) ∧ f56 10 = (.bool r44) ∧ f56 11 = (.int .u64 r46)) → Z f56) (fun Z hX51 => ?_) ?_
  ·have hr50 := hb
   clear hb
   have hb := hj
   clear hj
   refine wq_def J_cond_Number_3.eq_1 ?_
   refine Tw ?_
   refine Tw ?_
   refine bq_if hb rfl (fun c52 hb => ?_) (fun c52 hb => ?_)
   ·have hq := Option.some.inj hb
    subst hq
    try dsimp only at hr50
    have hb := hr50
    have hb := Option.some.inj hb
    obtain ⟨e0, hb⟩ := Prod.mk.inj hb
    obtain ⟨e1, e2⟩ := Prod.mk.inj hb
    subst e0
    subst e1
    subst e2
    have X := And.intro c52 X
    refine Tw ?_
    exact endI rfl
   ·have X := And.intro c52 X
    refine Tw ?_
    refine bq_if hb rfl (fun c54 hb => ?_) (fun c54 hb => ?_)
    ·have hq := Option.some.inj hb
     subst hq
     try dsimp only at hr50
     have hb := hr50
     have hb := Option.some.inj hb
     obtain ⟨e0, hb⟩ := Prod.mk.inj hb
     obtain ⟨e1, e2⟩ := Prod.mk.inj hb
     subst e0
     subst e1
     subst e2
     have X := And.intro c54 X
     refine Tw ?_
     exact endI rfl
    ·have hb := Option.some.inj hb
     subst hb
     have X := And.intro c54 X
     refine Tw ?_
     exact hX51 _ rfl Cw
  ·intro f56 ej Y58
   subst ej
   try dsimp only at hb
   have X := And.intro Y58 X
   refine Tw ?_
   refine bq_if hb rfl (fun c65 hb => ?_) (fun c65 hb => ?_)
   ·have hb := Option.some.inj hb
    obtain ⟨e0, hb⟩ := Prod.mk.inj hb
    obtain ⟨e1, e2⟩ := Prod.mk.inj hb
    subst e0
    subst e1
    subst e2
    have X := And.intro c65 X
    refine Tw ?_
    exact endI rfl
   ·have X := And.intro c65 X
    refine Tw ?_
    refine bq_if hb rfl (fun c66 hb => ?_) (fun c66 hb => ?_)
    ·have X := And.intro c66 X
     refine Tw ?_
     refine bnd1 hb (fun r67 h68 hb => ?_)
     refine hq_Len64 h68 ?_
     have hb := Option.some.inj hb
     obtain ⟨e0, hb⟩ := Prod.mk.inj hb
     obtain ⟨e1, e2⟩ := Prod.mk.inj hb
     subst e0
     subst e1
     subst e2
     refine Tw ?_
     exact endI rfl
    ·have hb := Option.some.inj hb
     obtain ⟨e0, hb⟩ := Prod.mk.inj hb
     obtain ⟨e1, e2⟩ := Prod.mk.inj hb
     subst e0
     subst e1
     subst e2
     have X := And.intro c66 X
     refine Tw ?_
     exact endI rfl
def G_burinlaw05_CondSame_L1 (n_7 : Int) (small_10 : Bytes) (great_11 : Bytes) : Bytes × Bytes × Int → Option ((Bytes × Bytes × Int) ⊕ (Bytes × Bytes)) := fun (h_12, g_13, i_15) =>
 if (decide ((0 : Int) ≤ i_15)) then
  shr .u64 n_7 i_15 >>= fun i33 =>
  shr .u64 n_7 i_15 >>= fun i34 =>
  subB small_10 (band .u64 i33 (15 : Int)) (IntKind.wrap .u64 ((band .u64 i34 (15 : Int)) + (1 : Int))) >>= fun t35 =>
  cat h_12 t35 >>= fun t36 =>
  shr .u64 n_7 i_15 >>= fun i37 =>
  shr .u64 n_7 i_15 >>= fun i38 =>
  subB great_11 (band .u64 i37 (15 : Int)) (IntKind.wrap .u64 ((band .u64 i38 (15 : Int)) + (1 : Int))) >>= fun t39 =>
  cat g_13 t39 >>= fun t40 =>
  some (Sum.inl (t36, t40, (IntKind.wrap .i64 (i_15 - (4 : Int)))))
 else
  some (Sum.inr (h_12, g_13))
theorem G_burinlaw05_CondSame_L1_ok {κ : Kt} {t : Blk κ} {n_7 : Int} {kind_8 : Int} {head_9 : Bool} {small_10 : Bytes} {great_11 : Bytes} {o_14 : Bytes} {h17 : Heap} (h_12 : Bytes) (g_13 : Bytes) (i_15 : Int) (x : Bytes × Bytes) (hx : loopO (G_burinlaw05_CondSame_L1 n_7 small_10 great_11) (h_12, g_13, i_15) = some x) (hh : True) (ho : True) : ∀ (f16 : Fr), (f16 0 = (.int .u64 n_7) ∧ f16 1 = (.int .i64 kind_8) ∧ f16 5 = (.bool head_9) ∧ f16 6 = (.str small_10) ∧ f16 7 = (.str great_11) ∧ f16 8 = (.str h_12) ∧ f16 9 = (.str g_13) ∧ f16 10 = (.str o_14) ∧ f16 11 = (.int .i64 i_15)) → (∀ (f43 : Fr) (h_41 : Bytes) (g_42 : Bytes), (h_41, g_42) = x → (f43 0 = (.int .u64 n_7) ∧ f43 1 = (.int .i64 kind_8) ∧ f43 5 = (.bool head_9) ∧ f43 6 = (.str small_10) ∧ f43 8 = (.str h_41) ∧ f43 9 = (.str g_42) ∧ f43 10 = (.str o_14)) → κ.B 0 f43 h17) → Lq E (.loop L_burinlaw05_CondSame_1) κ t f16 h17 := by
 revert h_12 g_13 i_15 x
 refine loop3' ?_
 intro h_12 g_13 i_15 r hb x hn f16  Y18  ex0
 dsimp only [G_burinlaw05_CondSame_L1] at hb
 refine loop_step L_burinlaw05_CondSame_1.eq_1 ?_
 have X := Y18
 refine Tw ?_
 refine Tw ?_
 refine bq_if hb rfl (fun c32 hb => ?_) (fun c32 hb => ?_)
 ·have X := And.intro c32 X
  refine Tw ?_
  refine vq_shr hb (fun i33 hi33 hb => ?_)
  refine Tw ?_
  refine vq_shr hb (fun i34 hi34 hb => ?_)
  refine Tw ?_
  refine vq_subBs hb (fun t35 ht35 hb => ?_)
  refine Tw ?_
  refine vq_cat hb (fun t36 ht36 hb => ?_)
  refine Tw ?_
  refine vq_shr hb (fun i37 hi37 hb => ?_)
  refine Tw ?_
  refine vq_shr hb (fun i38 hi38 hb => ?_)
  refine Tw ?_
  refine vq_subBs hb (fun t39 ht39 hb => ?_)
  refine Tw ?_
  refine vq_cat hb (fun t40 ht40 hb => ?_)
  have hb := Option.some.inj hb
  subst hb
  refine Tw ?_
  exact hn _  Cw ex0
 ·have hb := Option.some.inj hb
  subst hb
  have hn : _ = _ := hn
  subst hn
  have X := And.intro c32 X
  refine Tw ?_
  exact ex0 _ h_12 g_13 rfl Cw
def G_burinlaw05_CondSame_L2 (n_57 : Int) (small_60 : Bytes) : Bytes × Int → Option ((Bytes × Int) ⊕ (Bytes)) := fun (o_63, i_64) =>
 if (decide ((0 : Int) ≤ i_64)) then
  shr .u64 n_57 i_64 >>= fun i81 =>
  shr .u64 n_57 i_64 >>= fun i82 =>
  subB small_60 (band .u64 i81 (7 : Int)) (IntKind.wrap .u64 ((band .u64 i82 (7 : Int)) + (1 : Int))) >>= fun t83 =>
  cat o_63 t83 >>= fun t84 =>
  some (Sum.inl (t84, (IntKind.wrap .i64 (i_64 - (3 : Int)))))
 else
  some (Sum.inr o_63)
theorem G_burinlaw05_CondSame_L2_ok {κ : Kt} {t : Blk κ} {n_57 : Int} {kind_58 : Int} {head_59 : Bool} {small_60 : Bytes} {h_61 : Bytes} {g_62 : Bytes} {h66 : Heap} (o_63 : Bytes) (i_64 : Int) (x : Bytes) (hx : loopO (G_burinlaw05_CondSame_L2 n_57 small_60) (o_63, i_64) = some x) (hh : True) (ho : True) : ∀ (f65 : Fr), (f65 0 = (.int .u64 n_57) ∧ f65 1 = (.int .i64 kind_58) ∧ f65 5 = (.bool head_59) ∧ f65 6 = (.str small_60) ∧ f65 8 = (.str h_61) ∧ f65 9 = (.str g_62) ∧ f65 10 = (.str o_63) ∧ f65 12 = (.int .i64 i_64)) → (∀ (f86 : Fr) (o_85 : Bytes), o_85 = x → (f86 0 = (.int .u64 n_57) ∧ f86 1 = (.int .i64 kind_58) ∧ f86 5 = (.bool head_59) ∧ f86 8 = (.str h_61) ∧ f86 9 = (.str g_62) ∧ f86 10 = (.str o_85)) → κ.B 2 f86 h66) → Lq E (.loop L_burinlaw05_CondSame_2) κ t f65 h66 := by
 revert o_63 i_64 x
 refine loop2' ?_
 intro o_63 i_64 r hb x hn f65  Y67  ex0
 dsimp only [G_burinlaw05_CondSame_L2] at hb
 refine loop_step L_burinlaw05_CondSame_2.eq_1 ?_
 have X := Y67
 refine Tw ?_
 refine Tw ?_
 refine bq_if hb rfl (fun c80 hb => ?_) (fun c80 hb => ?_)
 ·have X := And.intro c80 X
  refine Tw ?_
  refine vq_shr hb (fun i81 hi81 hb => ?_)
  refine Tw ?_
  refine vq_shr hb (fun i82 hi82 hb => ?_)
  refine Tw ?_
  refine vq_subBs hb (fun t83 ht83 hb => ?_)
  refine Tw ?_
  refine vq_cat hb (fun t84 ht84 hb => ?_)
  have hb := Option.some.inj hb
  subst hb
  refine Tw ?_
  exact hn _  Cw ex0
 ·have hb := Option.some.inj hb
  subst hb
  have hn : _ = _ := hn
  subst hn
  have X := And.intro c80 X
  refine Tw ?_
  exact ex0 _ o_63 rfl Cw
def G_burinlaw05_CondSame (n_2 : Int) (kind_3 : Int) : Option (Bool) :=
 G_burinlaw05_shown  >>= fun r5 =>
 loopO (G_burinlaw05_CondSame_L1 n_2 ([48, 49, 50, 51, 52, 53, 54, 55, 56, 57, 97, 98, 99, 100, 101, 102] : Bytes) ([48, 49, 50, 51, 52, 53, 54, 55, 56, 57, 65, 66, 67, 68, 69, 70] : Bytes)) (([] : Bytes), ([] : Bytes), (60 : Int)) >>= fun (h_41, g_42) =>
 loopO (G_burinlaw05_CondSame_L2 n_2 ([48, 49, 50, 51, 52, 53, 54, 55, 56, 57, 97, 98, 99, 100, 101, 102] : Bytes)) (([] : Bytes), (63 : Int)) >>= fun o_85 =>
 rem kind_3 (6 : Int) >>= fun i99 =>
 rem (IntKind.wrap .i64 (i99 + (6 : Int))) (6 : Int) >>= fun i100 =>
 idx ([([] : Bytes), ([117] : Bytes), ([108] : Bytes), ([85, 76, 76] : Bytes), ([108, 108, 85] : Bytes), ([76, 117] : Bytes)] : List Bytes) i100 >>= fun x101 =>
 cat ([48, 120] : Bytes) h_41 >>= fun t102 =>
 cat t102 x101 >>= fun t103 =>
 G_cond_Number t103 >>= fun (r104, r105, r106) =>
 cat ([48, 88] : Bytes) g_42 >>= fun t108 =>
 cat t108 x101 >>= fun t109 =>
 G_cond_Number t109 >>= fun (r110, r111, r112) =>
 cat ([48] : Bytes) o_85 >>= fun t114 =>
 cat t114 x101 >>= fun t115 =>
 G_cond_Number t115 >>= fun (r116, r117, r118) =>
 if r5 then
  if (r104 == n_2) then
   if (r110 == n_2) then
    if (r116 == n_2) then
     if (r106 == (0 : Int)) then
      if (r112 == (0 : Int)) then
       if (r118 == (0 : Int)) then
        if (r105 == r111) then
         if (r105 == r117) then
          rem kind_3 (6 : Int) >>= fun i129 =>
          rem (IntKind.wrap .i64 (i129 + (6 : Int))) (6 : Int) >>= fun i130 =>
          if (!(i130 == (0 : Int))) then
           rem kind_3 (6 : Int) >>= fun i132 =>
           rem (IntKind.wrap .i64 (i132 + (6 : Int))) (6 : Int) >>= fun i133 =>
           if (!(i133 == (2 : Int))) then
            some (r105 == true)
           else
            some (r105 == (decide ((9223372036854775808 : Int) ≤ n_2)))
          else
           some (r105 == (decide ((9223372036854775808 : Int) ≤ n_2)))
         else
          some false
        else
         some false
       else
        some false
      else
       some false
     else
      some false
    else
     some false
   else
    some false
  else
   some false
 else
  some false
theorem G_burinlaw05_CondSame_ok {n_2 : Int} {kind_3 : Int} {r4 : Bool} (hx : G_burinlaw05_CondSame n_2 kind_3 = some r4) : PureE E 9 [(.int .u64 n_2), (.int .i64 kind_3)] (fun v => v = (.bool r4)) := by
 refine pureE_ok fn_burinlaw05_CondSame rfl ?_
 have hb := hx
 dsimp only [G_burinlaw05_CondSame] at hb
 have X := True.intro
 refine Tw ?_
 refine bnd1 hb (fun r5 h6 hb => ?_)
 refine pq_eq (G_burinlaw05_shown_ok h6) ?_
 refine Tw ?_
 refine bnd1 hb (fun q48 h49 hb => ?_)
 refine G_burinlaw05_CondSame_L1_ok (kind_8 := kind_3) (head_9 := r5) (o_14 := ([] : Bytes)) _ _ _ _ h49 trivial trivial _ Cw ?_
 ·intro f43 h_41 g_42 ex Y45
  subst ex
  try dsimp only at hb
  have X := And.intro Y45 X
  refine Tw ?_
  refine bnd1 hb (fun q91 h92 hb => ?_)
  refine G_burinlaw05_CondSame_L2_ok (kind_58 := kind_3) (head_59 := r5) (h_61 := h_41) (g_62 := g_42) _ _ _ h92 trivial trivial _ Cw ?_
  ·intro f86 o_85 ex Y88
   subst ex
   have X := And.intro Y88 X
   refine Tw ?_
   refine vq_rem hb (fun i99 hi99 hb => ?_)
   refine Tw ?_
   refine vq_rem hb (fun i100 hi100 hb => ?_)
   refine Tw ?_
   refine vq_idxA (enc := PV.str) rfl rfl hb (fun x101 hx101 hb => ?_)
   refine Tw ?_
   refine vq_cat hb (fun t102 ht102 hb => ?_)
   refine Tw ?_
   refine vq_cat hb (fun t103 ht103 hb => ?_)
   refine Tw ?_
   refine bnd3 hb (fun r104 r105 r106 h107 hb => ?_)
   try dsimp only at hb
   refine pq_eq (G_cond_Number_ok h107) ?_
   refine Tw ?_
   refine vq_cat hb (fun t108 ht108 hb => ?_)
   refine Tw ?_
   refine vq_cat hb (fun t109 ht109 hb => ?_)
   refine Tw ?_
   refine bnd3 hb (fun r110 r111 r112 h113 hb => ?_)
   try dsimp only at hb
   refine pq_eq (G_cond_Number_ok h113) ?_
   refine Tw ?_
   refine vq_cat hb (fun t114 ht114 hb => ?_)
   refine Tw ?_
   refine vq_cat hb (fun t115 ht115 hb => ?_)
   refine Tw ?_
   refine bnd3 hb (fun r116 r117 r118 h119 hb => ?_)
   try dsimp only at hb
   refine pq_eq (G_cond_Number_ok h119) ?_
   refine Tw ?_
   refine bq_if hb rfl (fun c120 hb => ?_) (fun c120 hb => ?_)
   ·have X := And.intro c120 X
    refine Tw ?_
    refine bq_if hb rfl (fun c121 hb => ?_) (fun c121 hb => ?_)
    ·have X := And.intro c121 X
     refine Tw ?_
     refine bq_if hb rfl (fun c122 hb => ?_) (fun c122 hb => ?_)
     ·have X := And.intro c122 X
      refine Tw ?_
      refine bq_if hb rfl (fun c123 hb => ?_) (fun c123 hb => ?_)
      ·have X := And.intro c123 X
       refine Tw ?_
       refine bq_if hb rfl (fun c124 hb => ?_) (fun c124 hb => ?_)
       ·have X := And.intro c124 X
        refine Tw ?_
        refine bq_if hb rfl (fun c125 hb => ?_) (fun c125 hb => ?_)
        ·have X := And.intro c125 X
         refine Tw ?_
         refine bq_if hb rfl (fun c126 hb => ?_) (fun c126 hb => ?_)
         ·have X := And.intro c126 X
          refine Tw ?_
          refine bq_if hb rfl (fun c127 hb => ?_) (fun c127 hb => ?_)
          ·have X := And.intro c127 X
           refine Tw ?_
           refine bq_if hb rfl (fun c128 hb => ?_) (fun c128 hb => ?_)
           ·have X := And.intro c128 X
            refine Tw ?_
            refine vq_rem hb (fun i129 hi129 hb => ?_)
            refine Tw ?_
            refine vq_rem hb (fun i130 hi130 hb => ?_)
            refine Tw ?_
            refine bq_if hb rfl (fun c131 hb => ?_) (fun c131 hb => ?_)
            ·have X := And.intro c131 X
             refine Tw ?_
             refine vq_rem hb (fun i132 hi132 hb => ?_)
             refine Tw ?_
             refine vq_rem hb (fun i133 hi133 hb => ?_)
             refine Tw ?_
             refine bq_if hb rfl (fun c134 hb => ?_) (fun c134 hb => ?_)
             ·have hb := Option.some.inj hb
              subst hb
              have X := And.intro c134 X
              refine Tw ?_
              exact endI rfl
             ·have hb := Option.some.inj hb
              subst hb
              have X := And.intro c134 X
              refine Tw ?_
              exact endI rfl
            ·have hb := Option.some.inj hb
             subst hb
             have X := And.intro c131 X
             refine Tw ?_
             exact endI rfl
           ·have hb := Option.some.inj hb
            subst hb
            have X := And.intro c128 X
            refine Tw ?_
            exact endI rfl
          ·have hb := Option.some.inj hb
           subst hb
           have X := And.intro c127 X
           refine Tw ?_
           exact endI rfl
         ·have hb := Option.some.inj hb
          subst hb
          have X := And.intro c126 X
          refine Tw ?_
          exact endI rfl
        ·have hb := Option.some.inj hb
         subst hb
         have X := And.intro c125 X
         refine Tw ?_
         exact endI rfl
       ·have hb := Option.some.inj hb
        subst hb
        have X := And.intro c124 X
        refine Tw ?_
        exact endI rfl
      ·have hb := Option.some.inj hb
       subst hb
       have X := And.intro c123 X
       refine Tw ?_
       exact endI rfl
     ·have hb := Option.some.inj hb
      subst hb
      have X := And.intro c122 X
      refine Tw ?_
      exact endI rfl
    ·have hb := Option.some.inj hb
     subst hb
     have X := And.intro c121 X
     refine Tw ?_
     exact endI rfl
   ·have hb := Option.some.inj hb
    subst hb
    have X := And.intro c120 X
    refine Tw ?_
    exact endI rfl
end Go.Proofs.YtmngkcpobmhnoaaGreatDoor.Sim
