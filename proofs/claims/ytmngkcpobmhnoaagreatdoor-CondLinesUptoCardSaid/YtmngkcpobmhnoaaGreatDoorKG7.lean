/- Printed functions, continued. -/
import Derived.Test.YtmngkcpobmhnoaaGreatDoorKG6
set_option linter.all false
set_option maxHeartbeats 4000000
set_option maxRecDepth 20000
namespace Go.Proofs.YtmngkcpobmhnoaaGreatDoor.Sim
theorem G_burinref05_hex_ok {c_2 : Int} {r3 : Int} (hx : G_burinref05_hex c_2 = some r3) : PureE E 122 [(.int .u8 c_2)] (fun v => v = (.int .i64 r3)) := by
 refine pureE_ok fn_burinref05_hex rfl ?_
 have hb := hx
 dsimp only [G_burinref05_hex] at hb
 have X := True.intro
 refine Tw ?_
 refine bnd1 hb (fun j15 hj hb => ?_)
 refine wq_joinF (fun Z => ∀ (f10 : Fr), Ex2.b () = j15 → (f10 0 = (.int .u8 c_2)) → Z f10) (fun Z hX6 => ?_) ?_
 ·have hr5 := hb
  clear hb
  have hb := hj
  clear hj
  refine wq_def J_burinref05_hex_1.eq_1 ?_
  refine Tw ?_
  refine Tw ?_
  refine bq_if hb rfl (fun c7 hb => ?_) (fun c7 hb => ?_)
  ·have X := And.intro c7 X
   refine Tw ?_
   refine bq_if hb rfl (fun c8 hb => ?_) (fun c8 hb => ?_)
   ·have hq := Option.some.inj hb
    subst hq
    try dsimp only at hr5
    have hb := hr5
    have hb := Option.some.inj hb
    subst hb
    have X := And.intro c8 X
    refine Tw ?_
    exact endI rfl
   ·have hb := Option.some.inj hb
    subst hb
    have X := And.intro c8 X
    refine Tw ?_
    exact hX6 _ rfl Cw
  ·have hb := Option.some.inj hb
   subst hb
   have X := And.intro c7 X
   refine Tw ?_
   exact hX6 _ rfl Cw
 ·intro f10 ej Y12
  subst ej
  try dsimp only at hb
  have X := And.intro Y12 X
  refine Tw ?_
  refine bnd1 hb (fun j28 hj hb => ?_)
  refine wq_joinF (fun Z => ∀ (f23 : Fr), Ex2.b () = j28 → (f23 0 = (.int .u8 c_2)) → Z f23) (fun Z hX19 => ?_) ?_
  ·have hr18 := hb
   clear hb
   have hb := hj
   clear hj
   refine wq_def J_burinref05_hex_2.eq_1 ?_
   refine Tw ?_
   refine Tw ?_
   refine bq_if hb rfl (fun c20 hb => ?_) (fun c20 hb => ?_)
   ·have X := And.intro c20 X
    refine Tw ?_
    refine bq_if hb rfl (fun c21 hb => ?_) (fun c21 hb => ?_)
    ·have hq := Option.some.inj hb
     subst hq
     try dsimp only at hr18
     have hb := hr18
     have hb := Option.some.inj hb
     subst hb
     have X := And.intro c21 X
     refine Tw ?_
     exact endI rfl
    ·have hb := Option.some.inj hb
     subst hb
     have X := And.intro c21 X
     refine Tw ?_
     exact hX19 _ rfl Cw
   ·have hb := Option.some.inj hb
    subst hb
    have X := And.intro c20 X
    refine Tw ?_
    exact hX19 _ rfl Cw
  ·intro f23 ej Y25
   subst ej
   try dsimp only at hb
   have X := And.intro Y25 X
   refine Tw ?_
   refine bq_if hb rfl (fun c30 hb => ?_) (fun c30 hb => ?_)
   ·have X := And.intro c30 X
    refine Tw ?_
    refine bq_if hb rfl (fun c31 hb => ?_) (fun c31 hb => ?_)
    ·have hb := Option.some.inj hb
     subst hb
     have X := And.intro c31 X
     refine Tw ?_
     exact endI rfl
    ·have hb := Option.some.inj hb
     subst hb
     have X := And.intro c31 X
     refine Tw ?_
     exact endI rfl
   ·have hb := Option.some.inj hb
    subst hb
    have X := And.intro c30 X
    refine Tw ?_
    exact endI rfl
def G_burinref05_suffix_L1 (s_5 : Bytes) : Int × Int × Int → Option ((Int × Int × Int) ⊕ (Ex2 (Unit) (Int × Int))) := fun (u_6, l_7, i_8) =>
 if (decide (i_8 < ((List.length s_5 : Nat) : Int))) then
  (
   idx s_5 i_8 >>= fun x24 =>
   if ((x24.toNat : Int) == (117 : Int)) then
    some (Ex2.a (Sum.inl ((IntKind.wrap .i64 (u_6 + (1 : Int))), l_7, (IntKind.wrap .i64 (i_8 + (1 : Int))))))
   else
    idx s_5 i_8 >>= fun x27 =>
    if ((x27.toNat : Int) == (85 : Int)) then
     some (Ex2.a (Sum.inl ((IntKind.wrap .i64 (u_6 + (1 : Int))), l_7, (IntKind.wrap .i64 (i_8 + (1 : Int))))))
    else
     some (Ex2.b ())
  ) >>= fun j35 => match j35 with
   | .a q => some q
   | .b () =>
    idx s_5 i_8 >>= fun x40 =>
    if (!((x40.toNat : Int) == (108 : Int))) then
     idx s_5 i_8 >>= fun x42 =>
     if (!((x42.toNat : Int) == (76 : Int))) then
      some (Sum.inr (Ex2.a ()))
     else
      if (decide ((0 : Int) < l_7)) then
       idx s_5 (IntKind.wrap .i64 (i_8 - (1 : Int))) >>= fun x45 =>
       idx s_5 i_8 >>= fun x46 =>
       if (!((x45.toNat : Int) == (x46.toNat : Int))) then
        some (Sum.inr (Ex2.a ()))
       else
        some (Sum.inl (u_6, (IntKind.wrap .i64 (l_7 + (1 : Int))), (IntKind.wrap .i64 (i_8 + (1 : Int)))))
      else
       some (Sum.inl (u_6, (IntKind.wrap .i64 (l_7 + (1 : Int))), (IntKind.wrap .i64 (i_8 + (1 : Int)))))
    else
     if (decide ((0 : Int) < l_7)) then
      idx s_5 (IntKind.wrap .i64 (i_8 - (1 : Int))) >>= fun x49 =>
      idx s_5 i_8 >>= fun x50 =>
      if (!((x49.toNat : Int) == (x50.toNat : Int))) then
       some (Sum.inr (Ex2.a ()))
      else
       some (Sum.inl (u_6, (IntKind.wrap .i64 (l_7 + (1 : Int))), (IntKind.wrap .i64 (i_8 + (1 : Int)))))
     else
      some (Sum.inl (u_6, (IntKind.wrap .i64 (l_7 + (1 : Int))), (IntKind.wrap .i64 (i_8 + (1 : Int)))))
 else
  some (Sum.inr (Ex2.b (u_6, l_7)))
theorem G_burinref05_suffix_L1_ok {κ : Kt} {t : Blk κ} {s_5 : Bytes} {h10 : Heap} (u_6 : Int) (l_7 : Int) (i_8 : Int) (x : Ex2 (Unit) (Int × Int)) (hx : loopO (G_burinref05_suffix_L1 s_5) (u_6, l_7, i_8) = some x) (hh : True) (ho : True) : ∀ (f9 : Fr), (f9 0 = (.str s_5) ∧ f9 4 = (.int .i64 u_6) ∧ f9 5 = (.int .i64 l_7) ∧ f9 6 = (.int .i64 i_8)) → (∀ (f52 : Fr), Ex2.a () = x → (f52 2 = (.bool false) ∧ f52 3 = (.bool false)) → κ.R f52 h10) → (∀ (f59 : Fr) (u_57 : Int) (l_58 : Int), Ex2.b (u_57, l_58) = x → (f59 4 = (.int .i64 u_57) ∧ f59 5 = (.int .i64 l_58)) → κ.B 0 f59 h10) → Lq E (.loop L_burinref05_suffix_1) κ t f9 h10 := by
 revert u_6 l_7 i_8 x
 refine loop3' ?_
 intro u_6 l_7 i_8 r hb x hn f9  Y11  ex0 ex1
 dsimp only [G_burinref05_suffix_L1] at hb
 refine loop_step L_burinref05_suffix_1.eq_1 ?_
 have X := Y11
 refine Tw ?_
 refine Tw ?_
 refine bq_if hb rfl (fun c20 hb => ?_) (fun c20 hb => ?_)
 ·have X := And.intro c20 X
  refine Tw ?_
  refine bnd1 hb (fun j35 hj hb => ?_)
  refine wq_joinF (fun Z => ∀ (f30 : Fr), Ex2.b () = j35 → (f30 0 = (.str s_5) ∧ f30 4 = (.int .i64 u_6) ∧ f30 5 = (.int .i64 l_7) ∧ f30 6 = (.int .i64 i_8)) → Z f30) (fun Z hX23 => ?_) ?_
  ·have hr22 := hb
   clear hb
   have hb := hj
   clear hj
   refine wq_def J_burinref05_suffix_1.eq_1 ?_
   refine Tw ?_
   refine Tw ?_
   refine vq_idxS hb (fun x24 hx24 hb => ?_)
   refine Tw ?_
   refine bq_if hb rfl (fun c25 hb => ?_) (fun c25 hb => ?_)
   ·have hq := Option.some.inj hb
    subst hq
    try dsimp only at hr22
    have hb := hr22
    have hb := Option.some.inj hb
    subst hb
    have X := And.intro c25 X
    refine Tw ?_
    exact hn _  Cw ex0 ex1
   ·have X := And.intro c25 X
    refine Tw ?_
    refine vq_idxS hb (fun x27 hx27 hb => ?_)
    refine Tw ?_
    refine bq_if hb rfl (fun c28 hb => ?_) (fun c28 hb => ?_)
    ·have hq := Option.some.inj hb
     subst hq
     try dsimp only at hr22
     have hb := hr22
     have hb := Option.some.inj hb
     subst hb
     have X := And.intro c28 X
     refine Tw ?_
     exact hn _  Cw ex0 ex1
    ·have hb := Option.some.inj hb
     subst hb
     have X := And.intro c28 X
     refine Tw ?_
     exact hX23 _ rfl Cw
  ·intro f30 ej Y32
   subst ej
   try dsimp only at hb
   have X := And.intro Y32 X
   refine Tw ?_
   refine vq_idxS hb (fun x40 hx40 hb => ?_)
   refine Tw ?_
   refine bq_if hb rfl (fun c41 hb => ?_) (fun c41 hb => ?_)
   ·have X := And.intro c41 X
    refine Tw ?_
    refine vq_idxS hb (fun x42 hx42 hb => ?_)
    refine Tw ?_
    refine bq_if hb rfl (fun c43 hb => ?_) (fun c43 hb => ?_)
    ·have hb := Option.some.inj hb
     subst hb
     have hn : _ = _ := hn
     subst hn
     have X := And.intro c43 X
     refine Tw ?_
     exact ex0 _ rfl Cw
    ·have X := And.intro c43 X
     refine Tw ?_
     refine bq_if hb rfl (fun c44 hb => ?_) (fun c44 hb => ?_)
     ·have X := And.intro c44 X
      refine Tw ?_
      refine vq_idxS hb (fun x45 hx45 hb => ?_)
      refine Tw ?_
      refine vq_idxS hb (fun x46 hx46 hb => ?_)
      refine Tw ?_
      refine bq_if hb rfl (fun c47 hb => ?_) (fun c47 hb => ?_)
      ·have hb := Option.some.inj hb
       subst hb
       have hn : _ = _ := hn
       subst hn
       have X := And.intro c47 X
       refine Tw ?_
       exact ex0 _ rfl Cw
      ·have hb := Option.some.inj hb
       subst hb
       have X := And.intro c47 X
       refine Tw ?_
       exact hn _  Cw ex0 ex1
     ·have hb := Option.some.inj hb
      subst hb
      have X := And.intro c44 X
      refine Tw ?_
      exact hn _  Cw ex0 ex1
   ·have X := And.intro c41 X
    refine Tw ?_
    refine bq_if hb rfl (fun c48 hb => ?_) (fun c48 hb => ?_)
    ·have X := And.intro c48 X
     refine Tw ?_
     refine vq_idxS hb (fun x49 hx49 hb => ?_)
     refine Tw ?_
     refine vq_idxS hb (fun x50 hx50 hb => ?_)
     refine Tw ?_
     refine bq_if hb rfl (fun c51 hb => ?_) (fun c51 hb => ?_)
     ·have hb := Option.some.inj hb
      subst hb
      have hn : _ = _ := hn
      subst hn
      have X := And.intro c51 X
      refine Tw ?_
      exact ex0 _ rfl Cw
     ·have hb := Option.some.inj hb
      subst hb
      have X := And.intro c51 X
      refine Tw ?_
      exact hn _  Cw ex0 ex1
    ·have hb := Option.some.inj hb
     subst hb
     have X := And.intro c48 X
     refine Tw ?_
     exact hn _  Cw ex0 ex1
 ·have hb := Option.some.inj hb
  subst hb
  have hn : _ = _ := hn
  subst hn
  have X := And.intro c20 X
  refine Tw ?_
  exact ex1 _ u_6 l_7 rfl Cw
def G_burinref05_suffix (s_2 : Bytes) : Option (Bool × Bool) :=
 loopO (G_burinref05_suffix_L1 s_2) ((0 : Int), (0 : Int), (0 : Int)) >>= fun q64 => match q64 with
  | .a _ =>
   some (false, false)
  | .b (u_57, l_58) =>
   if (decide (u_57 ≤ (1 : Int))) then
    some ((decide (l_58 ≤ (2 : Int))), (u_57 == (1 : Int)))
   else
    some (false, (u_57 == (1 : Int)))
theorem G_burinref05_suffix_ok {s_2 : Bytes} {r3 : Bool} {r4 : Bool} (hx : G_burinref05_suffix s_2 = some (r3, r4)) : PureE E 124 [(.str s_2)] (fun v => v = (.tuple [(.bool r3), (.bool r4)])) := by
 refine pureE_ok fn_burinref05_suffix rfl ?_
 have hb := hx
 dsimp only [G_burinref05_suffix] at hb
 have X := True.intro
 refine Tw ?_
 refine bnd1 hb (fun q64 h65 hb => ?_)
 refine G_burinref05_suffix_L1_ok _ _ _ _ h65 trivial trivial _ Cw ?_ ?_
 ·intro f52 ex Y54
  subst ex
  try dsimp only at hb
  have hb := Option.some.inj hb
  obtain ⟨e0, e1⟩ := Prod.mk.inj hb
  subst e0
  subst e1
  have X := And.intro Y54 X
  refine Tw ?_
  exact endI rfl
 ·intro f59 u_57 l_58 ex Y61
  subst ex
  try dsimp only at hb
  have X := And.intro Y61 X
  refine Tw ?_
  refine bq_if hb rfl (fun c70 hb => ?_) (fun c70 hb => ?_)
  ·have hb := Option.some.inj hb
   obtain ⟨e0, e1⟩ := Prod.mk.inj hb
   subst e0
   subst e1
   have X := And.intro c70 X
   refine Tw ?_
   exact endI rfl
  ·have hb := Option.some.inj hb
   obtain ⟨e0, e1⟩ := Prod.mk.inj hb
   subst e0
   subst e1
   have X := And.intro c70 X
   refine Tw ?_
   exact endI rfl
def G_burinref05_Number_L1 (s_10 : Bytes) (b_11 : Int) : Int × Int × Int → Option ((Int × Int × Int) ⊕ (Ex2 (Int × Int × Int) (Unit))) := fun (at_12, v_13, n_14) =>
 (
  if (decide (at_12 < ((List.length s_10 : Nat) : Int))) then
   idx s_10 at_12 >>= fun x31 =>
   G_burinref05_hex (x31.toNat : Int) >>= fun r32 =>
   if (decide ((IntKind.wrap .u64 r32) < b_11)) then
    some (Ex2.b ())
   else
    some (Ex2.a (Sum.inr (Ex2.a (at_12, v_13, n_14))))
  else
   some (Ex2.a (Sum.inr (Ex2.a (at_12, v_13, n_14))))
 ) >>= fun j42 => match j42 with
  | .a q => some q
  | .b () =>
   idx s_10 at_12 >>= fun x48 =>
   G_burinref05_hex (x48.toNat : Int) >>= fun r49 =>
   quo .u64 (IntKind.wrap .u64 ((18446744073709551615 : Int) - (IntKind.wrap .u64 r49))) b_11 >>= fun i51 =>
   if (decide (i51 < v_13)) then
    some (Sum.inr (Ex2.b ()))
   else
    some (Sum.inl ((IntKind.wrap .i64 (at_12 + (1 : Int))), (IntKind.wrap .u64 ((IntKind.wrap .u64 (v_13 * b_11)) + (IntKind.wrap .u64 r49))), (IntKind.wrap .i64 (n_14 + (1 : Int)))))
theorem G_burinref05_Number_L1_ok {κ : Kt} {t : Blk κ} {s_10 : Bytes} {b_11 : Int} {h16 : Heap} (at_12 : Int) (v_13 : Int) (n_14 : Int) (x : Ex2 (Int × Int × Int) (Unit)) (hx : loopO (G_burinref05_Number_L1 s_10 b_11) (at_12, v_13, n_14) = some x) (hh : True) (ho : True) : ∀ (f15 : Fr), (f15 0 = (.str s_10) ∧ f15 5 = (.int .u64 b_11) ∧ f15 6 = (.int .i64 at_12) ∧ f15 7 = (.int .u64 v_13) ∧ f15 8 = (.int .i64 n_14)) → (∀ (f56 : Fr) (at_53 : Int) (v_54 : Int) (n_55 : Int), Ex2.a (at_53, v_54, n_55) = x → (f56 0 = (.str s_10) ∧ f56 5 = (.int .u64 b_11) ∧ f56 6 = (.int .i64 at_53) ∧ f56 7 = (.int .u64 v_54) ∧ f56 8 = (.int .i64 n_55)) → κ.B 0 f56 h16) → (∀ (f61 : Fr), Ex2.b () = x → (f61 2 = (.int .u64 (0 : Int)) ∧ f61 3 = (.bool false) ∧ f61 4 = (.int .i64 (50 : Int))) → κ.R f61 h16) → Lq E (.loop L_burinref05_Number_1) κ t f15 h16 := by
 revert at_12 v_13 n_14 x
 refine loop3' ?_
 intro at_12 v_13 n_14 r hb x hn f15  Y17  ex0 ex1
 dsimp only [G_burinref05_Number_L1] at hb
 refine loop_step L_burinref05_Number_1.eq_1 ?_
 have X := Y17
 refine Tw ?_
 refine Tw ?_
 refine bnd1 hb (fun j42 hj hb => ?_)
 refine wq_joinF (fun Z => ∀ (f37 : Fr), Ex2.b () = j42 → (f37 0 = (.str s_10) ∧ f37 5 = (.int .u64 b_11) ∧ f37 6 = (.int .i64 at_12) ∧ f37 7 = (.int .u64 v_13) ∧ f37 8 = (.int .i64 n_14)) → Z f37) (fun Z hX29 => ?_) ?_
 ·have hr28 := hb
  clear hb
  have hb := hj
  clear hj
  refine wq_def J_burinref05_Number_1.eq_1 ?_
  refine Tw ?_
  refine Tw ?_
  refine bq_if hb rfl (fun c30 hb => ?_) (fun c30 hb => ?_)
  ·have X := And.intro c30 X
   refine Tw ?_
   refine vq_idxS hb (fun x31 hx31 hb => ?_)
   refine Tw ?_
   refine bnd1 hb (fun r32 h33 hb => ?_)
   refine pq_eq (G_burinref05_hex_ok h33) ?_
   refine Tw ?_
   refine bq_if hb rfl (fun c34 hb => ?_) (fun c34 hb => ?_)
   ·have hb := Option.some.inj hb
    subst hb
    have X := And.intro c34 X
    refine Tw ?_
    exact hX29 _ rfl Cw
   ·have hq := Option.some.inj hb
    subst hq
    try dsimp only at hr28
    have hb := hr28
    have hb := Option.some.inj hb
    subst hb
    have hn : _ = _ := hn
    subst hn
    have X := And.intro c34 X
    refine Tw ?_
    exact ex0 _ at_12 v_13 n_14 rfl Cw
  ·have hq := Option.some.inj hb
   subst hq
   try dsimp only at hr28
   have hb := hr28
   have hb := Option.some.inj hb
   subst hb
   have hn : _ = _ := hn
   subst hn
   have X := And.intro c30 X
   refine Tw ?_
   exact ex0 _ at_12 v_13 n_14 rfl Cw
 ·intro f37 ej Y39
  subst ej
  try dsimp only at hb
  have X := And.intro Y39 X
  refine Tw ?_
  refine vq_idxS hb (fun x48 hx48 hb => ?_)
  refine Tw ?_
  refine bnd1 hb (fun r49 h50 hb => ?_)
  refine pq_eq (G_burinref05_hex_ok h50) ?_
  refine Tw ?_
  refine vq_quo hb (fun i51 hi51 hb => ?_)
  refine Tw ?_
  refine bq_if hb rfl (fun c52 hb => ?_) (fun c52 hb => ?_)
  ·have hb := Option.some.inj hb
   subst hb
   have hn : _ = _ := hn
   subst hn
   have X := And.intro c52 X
   refine Tw ?_
   exact ex1 _ rfl Cw
  ·have hb := Option.some.inj hb
   subst hb
   have X := And.intro c52 X
   refine Tw ?_
   exact hn _  Cw ex0 ex1
def G_burinref05_Number (s_2 : Bytes) : Option (Int × Bool × Int) :=
 if (s_2 == ([] : Bytes)) then
  some ((0 : Int), false, (50 : Int))
 else
  G_burinref05_base s_2 >>= fun (r7, r8) =>
  loopO (G_burinref05_Number_L1 s_2 r7) (r8, (0 : Int), (0 : Int)) >>= fun q66 => match q66 with
   | .a (at_53, v_54, n_55) =>
    subF s_2 at_53 >>= fun t73 =>
    G_burinref05_suffix t73 >>= fun (r74, r75) =>
    if (!r74) then
     some ((0 : Int), false, (50 : Int))
    else
     if (n_55 == (0 : Int)) then
      some ((0 : Int), false, (50 : Int))
     else
      if r75 then
       some (v_54, true, (0 : Int))
      else
       if (decide ((9223372036854775808 : Int) ≤ v_54)) then
        some (v_54, (!(r7 == (10 : Int))), (0 : Int))
       else
        some (v_54, false, (0 : Int))
   | .b _ =>
    some ((0 : Int), false, (50 : Int))
theorem G_burinref05_Number_ok {s_2 : Bytes} {r3 : Int} {r4 : Bool} {r5 : Int} (hx : G_burinref05_Number s_2 = some (r3, r4, r5)) : PureE E 84 [(.str s_2)] (fun v => v = (.tuple [(.int .u64 r3), (.bool r4), (.int .i64 r5)])) := by
 refine pureE_ok fn_burinref05_Number rfl ?_
 have hb := hx
 dsimp only [G_burinref05_Number] at hb
 have X := True.intro
 refine Tw ?_
 refine bq_if hb rfl (fun c6 hb => ?_) (fun c6 hb => ?_)
 ·have hb := Option.some.inj hb
  obtain ⟨e0, hb⟩ := Prod.mk.inj hb
  obtain ⟨e1, e2⟩ := Prod.mk.inj hb
  subst e0
  subst e1
  subst e2
  have X := And.intro c6 X
  refine Tw ?_
  exact endI rfl
 ·have X := And.intro c6 X
  refine Tw ?_
  refine bnd2 hb (fun r7 r8 h9 hb => ?_)
  try dsimp only at hb
  refine pq_eq (G_burinref05_base_ok h9) ?_
  refine Tw ?_
  refine bnd1 hb (fun q66 h67 hb => ?_)
  refine G_burinref05_Number_L1_ok _ _ _ _ h67 trivial trivial _ Cw ?_ ?_
  ·intro f56 at_53 v_54 n_55 ex Y58
   subst ex
   try dsimp only at hb
   have X := And.intro Y58 X
   refine Tw ?_
   refine vq_subFs hb (fun t73 ht73 hb => ?_)
   refine Tw ?_
   refine bnd2 hb (fun r74 r75 h76 hb => ?_)
   try dsimp only at hb
   refine pq_eq (G_burinref05_suffix_ok h76) ?_
   refine Tw ?_
   refine bq_if hb rfl (fun c77 hb => ?_) (fun c77 hb => ?_)
   ·have hb := Option.some.inj hb
    obtain ⟨e0, hb⟩ := Prod.mk.inj hb
    obtain ⟨e1, e2⟩ := Prod.mk.inj hb
    subst e0
    subst e1
    subst e2
    have X := And.intro c77 X
    refine Tw ?_
    exact endI rfl
   ·have X := And.intro c77 X
    refine Tw ?_
    refine bq_if hb rfl (fun c78 hb => ?_) (fun c78 hb => ?_)
    ·have hb := Option.some.inj hb
     obtain ⟨e0, hb⟩ := Prod.mk.inj hb
     obtain ⟨e1, e2⟩ := Prod.mk.inj hb
     subst e0
     subst e1
     subst e2
     have X := And.intro c78 X
     refine Tw ?_
     exact endI rfl
    ·have X := And.intro c78 X
     refine Tw ?_
     refine bq_if hb rfl (fun c79 hb => ?_) (fun c79 hb => ?_)
     ·have hb := Option.some.inj hb
      obtain ⟨e0, hb⟩ := Prod.mk.inj hb
      obtain ⟨e1, e2⟩ := Prod.mk.inj hb
      subst e0
      subst e1
      subst e2
      have X := And.intro c79 X
      refine Tw ?_
      exact endI rfl
     ·have X := And.intro c79 X
      refine Tw ?_
      refine bq_if hb rfl (fun c80 hb => ?_) (fun c80 hb => ?_)
      ·have hb := Option.some.inj hb
       obtain ⟨e0, hb⟩ := Prod.mk.inj hb
       obtain ⟨e1, e2⟩ := Prod.mk.inj hb
       subst e0
       subst e1
       subst e2
       have X := And.intro c80 X
       refine Tw ?_
       exact endI rfl
      ·have hb := Option.some.inj hb
       obtain ⟨e0, hb⟩ := Prod.mk.inj hb
       obtain ⟨e1, e2⟩ := Prod.mk.inj hb
       subst e0
       subst e1
       subst e2
       have X := And.intro c80 X
       refine Tw ?_
       exact endI rfl
  ·intro f61 ex Y63
   subst ex
   try dsimp only at hb
   have hb := Option.some.inj hb
   obtain ⟨e0, hb⟩ := Prod.mk.inj hb
   obtain ⟨e1, e2⟩ := Prod.mk.inj hb
   subst e0
   subst e1
   subst e2
   have X := And.intro Y63 X
   refine Tw ?_
   exact endI rfl
def G_burinref05_escape_L1 (s_6 : Bytes) (from_7 : Bytes) (to_8 : Bytes) : Int → Option ((Int) ⊕ (Ex2 (Int) (Unit))) := fun i_9 =>
 if (decide (i_9 < ((List.length from_7 : Nat) : Int))) then
  idx s_6 (0 : Int) >>= fun x22 =>
  idx from_7 i_9 >>= fun x23 =>
  if ((x22.toNat : Int) == (x23.toNat : Int)) then
   idx to_8 i_9 >>= fun x25 =>
   some (Sum.inr (Ex2.a (IntKind.wrap .i64 (x25.toNat : Int))))
  else
   some (Sum.inl (IntKind.wrap .i64 (i_9 + (1 : Int))))
 else
  some (Sum.inr (Ex2.b ()))
theorem G_burinref05_escape_L1_ok {κ : Kt} {t : Blk κ} {s_6 : Bytes} {from_7 : Bytes} {to_8 : Bytes} {h11 : Heap} (i_9 : Int) (x : Ex2 (Int) (Unit)) (hx : loopO (G_burinref05_escape_L1 s_6 from_7 to_8) i_9 = some x) (hh : True) (ho : True) : ∀ (f10 : Fr), (f10 0 = (.str s_6) ∧ f10 4 = (.str from_7) ∧ f10 5 = (.str to_8) ∧ f10 6 = (.int .i64 i_9)) → (∀ (f27 : Fr) (v26 : Int), Ex2.a v26 = x → (f27 2 = (.int .i64 v26) ∧ f27 3 = (.int .i64 (1 : Int))) → κ.R f27 h11) → (∀ (f32 : Fr), Ex2.b () = x → (f32 0 = (.str s_6)) → κ.B 0 f32 h11) → Lq E (.loop L_burinref05_escape_1) κ t f10 h11 := by
 revert i_9 x
 refine loop1' ?_
 intro i_9 r hb x hn f10  Y12  ex0 ex1
 dsimp only [G_burinref05_escape_L1] at hb
 refine loop_step L_burinref05_escape_1.eq_1 ?_
 have X := Y12
 refine Tw ?_
 refine Tw ?_
 refine bq_if hb rfl (fun c21 hb => ?_) (fun c21 hb => ?_)
 ·have X := And.intro c21 X
  refine Tw ?_
  refine vq_idxS hb (fun x22 hx22 hb => ?_)
  refine Tw ?_
  refine vq_idxS hb (fun x23 hx23 hb => ?_)
  refine Tw ?_
  refine bq_if hb rfl (fun c24 hb => ?_) (fun c24 hb => ?_)
  ·have X := And.intro c24 X
   refine Tw ?_
   refine vq_idxS hb (fun x25 hx25 hb => ?_)
   have hb := Option.some.inj hb
   subst hb
   have hn : _ = _ := hn
   subst hn
   refine Tw ?_
   exact ex0 _ (IntKind.wrap .i64 (x25.toNat : Int)) rfl Cw
  ·have hb := Option.some.inj hb
   subst hb
   have X := And.intro c24 X
   refine Tw ?_
   exact hn _  Cw ex0 ex1
 ·have hb := Option.some.inj hb
  subst hb
  have hn : _ = _ := hn
  subst hn
  have X := And.intro c21 X
  refine Tw ?_
  exact ex1 _ rfl Cw
def G_burinref05_escape_L2 (s_44 : Bytes) : Int × Int → Option ((Int × Int) ⊕ (Int × Int)) := fun (v_45, n_46) =>
 (
  if (decide (n_46 < ((List.length s_44 : Nat) : Int))) then
   idx s_44 n_46 >>= fun x61 =>
   G_burinref05_hex (x61.toNat : Int) >>= fun r62 =>
   if (decide (r62 < (16 : Int))) then
    some (Ex2.b ())
   else
    some (Ex2.a (Sum.inr (v_45, n_46)))
  else
   some (Ex2.a (Sum.inr (v_45, n_46)))
 ) >>= fun j72 => match j72 with
  | .a q => some q
  | .b () =>
   idx s_44 n_46 >>= fun x76 =>
   G_burinref05_hex (x76.toNat : Int) >>= fun r77 =>
   some (Sum.inl ((if (IntKind.wrap .i64 ((IntKind.wrap .i64 ((16 : Int) * v_45)) + r77)) < (256 : Int) then (IntKind.wrap .i64 ((IntKind.wrap .i64 ((16 : Int) * v_45)) + r77)) else (256 : Int)), (IntKind.wrap .i64 (n_46 + (1 : Int)))))
theorem G_burinref05_escape_L2_ok {κ : Kt} {t : Blk κ} {s_44 : Bytes} {h48 : Heap} (v_45 : Int) (n_46 : Int) (x : Int × Int) (hx : loopO (G_burinref05_escape_L2 s_44) (v_45, n_46) = some x) (hh : True) (ho : True) : ∀ (f47 : Fr), (f47 0 = (.str s_44) ∧ f47 7 = (.int .i64 v_45) ∧ f47 8 = (.int .i64 n_46)) → (∀ (f81 : Fr) (v_79 : Int) (n_80 : Int), (v_79, n_80) = x → (f81 7 = (.int .i64 v_79) ∧ f81 8 = (.int .i64 n_80)) → κ.B 2 f81 h48) → Lq E (.loop L_burinref05_escape_2) κ t f47 h48 := by
 revert v_45 n_46 x
 refine loop2' ?_
 intro v_45 n_46 r hb x hn f47  Y49  ex0
 dsimp only [G_burinref05_escape_L2] at hb
 refine loop_step L_burinref05_escape_2.eq_1 ?_
 have X := Y49
 refine Tw ?_
 refine Tw ?_
 refine bnd1 hb (fun j72 hj hb => ?_)
 refine wq_joinF (fun Z => ∀ (f67 : Fr), Ex2.b () = j72 → (f67 0 = (.str s_44) ∧ f67 7 = (.int .i64 v_45) ∧ f67 8 = (.int .i64 n_46)) → Z f67) (fun Z hX59 => ?_) ?_
 ·have hr58 := hb
  clear hb
  have hb := hj
  clear hj
  refine wq_def J_burinref05_escape_1.eq_1 ?_
  refine Tw ?_
  refine Tw ?_
  refine bq_if hb rfl (fun c60 hb => ?_) (fun c60 hb => ?_)
  ·have X := And.intro c60 X
   refine Tw ?_
   refine vq_idxS hb (fun x61 hx61 hb => ?_)
   refine Tw ?_
   refine bnd1 hb (fun r62 h63 hb => ?_)
   refine pq_eq (G_burinref05_hex_ok h63) ?_
   refine Tw ?_
   refine bq_if hb rfl (fun c64 hb => ?_) (fun c64 hb => ?_)
   ·have hb := Option.some.inj hb
    subst hb
    have X := And.intro c64 X
    refine Tw ?_
    exact hX59 _ rfl Cw
   ·have hq := Option.some.inj hb
    subst hq
    try dsimp only at hr58
    have hb := hr58
    have hb := Option.some.inj hb
    subst hb
    have hn : _ = _ := hn
    subst hn
    have X := And.intro c64 X
    refine Tw ?_
    exact ex0 _ v_45 n_46 rfl Cw
  ·have hq := Option.some.inj hb
   subst hq
   try dsimp only at hr58
   have hb := hr58
   have hb := Option.some.inj hb
   subst hb
   have hn : _ = _ := hn
   subst hn
   have X := And.intro c60 X
   refine Tw ?_
   exact ex0 _ v_45 n_46 rfl Cw
 ·intro f67 ej Y69
  subst ej
  try dsimp only at hb
  have X := And.intro Y69 X
  refine Tw ?_
  refine vq_idxS hb (fun x76 hx76 hb => ?_)
  refine Tw ?_
  refine bnd1 hb (fun r77 h78 hb => ?_)
  refine pq_eq (G_burinref05_hex_ok h78) ?_
  have hb := Option.some.inj hb
  subst hb
  refine Tw ?_
  exact hn _  Cw ex0
def G_burinref05_escape_L3 (s_92 : Bytes) : Int × Int → Option ((Int × Int) ⊕ (Int × Int)) := fun (v_93, n_94) =>
 (
  if (decide (n_94 < ((List.length s_92 : Nat) : Int))) then
   if (decide (n_94 < (3 : Int))) then
    idx s_92 n_94 >>= fun x110 =>
    G_burinref05_hex (x110.toNat : Int) >>= fun r111 =>
    if (decide (r111 < (8 : Int))) then
     some (Ex2.b ())
    else
     some (Ex2.a (Sum.inr (v_93, n_94)))
   else
    some (Ex2.a (Sum.inr (v_93, n_94)))
  else
   some (Ex2.a (Sum.inr (v_93, n_94)))
 ) >>= fun j122 => match j122 with
  | .a q => some q
  | .b () =>
   idx s_92 n_94 >>= fun x126 =>
   G_burinref05_hex (x126.toNat : Int) >>= fun r127 =>
   some (Sum.inl ((IntKind.wrap .i64 ((IntKind.wrap .i64 ((8 : Int) * v_93)) + r127)), (IntKind.wrap .i64 (n_94 + (1 : Int)))))
theorem G_burinref05_escape_L3_ok {κ : Kt} {t : Blk κ} {s_92 : Bytes} {h96 : Heap} (v_93 : Int) (n_94 : Int) (x : Int × Int) (hx : loopO (G_burinref05_escape_L3 s_92) (v_93, n_94) = some x) (hh : True) (ho : True) : ∀ (f95 : Fr), (f95 0 = (.str s_92) ∧ f95 7 = (.int .i64 v_93) ∧ f95 8 = (.int .i64 n_94)) → (∀ (f131 : Fr) (v_129 : Int) (n_130 : Int), (v_129, n_130) = x → (f131 7 = (.int .i64 v_129) ∧ f131 8 = (.int .i64 n_130)) → κ.B 4 f131 h96) → Lq E (.loop L_burinref05_escape_3) κ t f95 h96 := by
 revert v_93 n_94 x
 refine loop2' ?_
 intro v_93 n_94 r hb x hn f95  Y97  ex0
 dsimp only [G_burinref05_escape_L3] at hb
 refine loop_step L_burinref05_escape_3.eq_1 ?_
 have X := Y97
 refine Tw ?_
 refine Tw ?_
 refine bnd1 hb (fun j122 hj hb => ?_)
 refine wq_joinF (fun Z => ∀ (f117 : Fr), Ex2.b () = j122 → (f117 0 = (.str s_92) ∧ f117 7 = (.int .i64 v_93) ∧ f117 8 = (.int .i64 n_94)) → Z f117) (fun Z hX107 => ?_) ?_
 ·have hr106 := hb
  clear hb
  have hb := hj
  clear hj
  refine wq_def J_burinref05_escape_2.eq_1 ?_
  refine Tw ?_
  refine Tw ?_
  refine bq_if hb rfl (fun c108 hb => ?_) (fun c108 hb => ?_)
  ·have X := And.intro c108 X
   refine Tw ?_
   refine bq_if hb rfl (fun c109 hb => ?_) (fun c109 hb => ?_)
   ·have X := And.intro c109 X
    refine Tw ?_
    refine vq_idxS hb (fun x110 hx110 hb => ?_)
    refine Tw ?_
    refine bnd1 hb (fun r111 h112 hb => ?_)
    refine pq_eq (G_burinref05_hex_ok h112) ?_
    refine Tw ?_
    refine bq_if hb rfl (fun c113 hb => ?_) (fun c113 hb => ?_)
    ·have hb := Option.some.inj hb
     subst hb
     have X := And.intro c113 X
     refine Tw ?_
     exact hX107 _ rfl Cw
    ·have hq := Option.some.inj hb
     subst hq
     try dsimp only at hr106
     have hb := hr106
     have hb := Option.some.inj hb
     subst hb
     have hn : _ = _ := hn
     subst hn
     have X := And.intro c113 X
     refine Tw ?_
     exact ex0 _ v_93 n_94 rfl Cw
   ·have hq := Option.some.inj hb
    subst hq
    try dsimp only at hr106
    have hb := hr106
    have hb := Option.some.inj hb
    subst hb
    have hn : _ = _ := hn
    subst hn
    have X := And.intro c109 X
    refine Tw ?_
    exact ex0 _ v_93 n_94 rfl Cw
  ·have hq := Option.some.inj hb
   subst hq
   try dsimp only at hr106
   have hb := hr106
   have hb := Option.some.inj hb
   subst hb
   have hn : _ = _ := hn
   subst hn
   have X := And.intro c108 X
   refine Tw ?_
   exact ex0 _ v_93 n_94 rfl Cw
 ·intro f117 ej Y119
  subst ej
  try dsimp only at hb
  have X := And.intro Y119 X
  refine Tw ?_
  refine vq_idxS hb (fun x126 hx126 hb => ?_)
  refine Tw ?_
  refine bnd1 hb (fun r127 h128 hb => ?_)
  refine pq_eq (G_burinref05_hex_ok h128) ?_
  have hb := Option.some.inj hb
  subst hb
  refine Tw ?_
  exact hn _  Cw ex0
def G_burinref05_escape (s_2 : Bytes) : Option (Int × Int) :=
 if (((List.length s_2 : Nat) : Int) == (0 : Int)) then
  some ((0 : Int), (0 : Int))
 else
  loopO (G_burinref05_escape_L1 s_2 ([110, 116, 118, 98, 114, 102, 97, 92, 39, 34, 63] : Bytes) ([10, 9, 11, 8, 13, 12, 7, 92, 39, 34, 63] : Bytes)) (0 : Int) >>= fun q37 => match q37 with
   | .a v26 =>
    some (v26, (1 : Int))
   | .b _ =>
    idx s_2 (0 : Int) >>= fun x42 =>
    if ((x42.toNat : Int) == (120 : Int)) then
     loopO (G_burinref05_escape_L2 s_2) ((0 : Int), (1 : Int)) >>= fun (v_79, n_80) =>
     if (n_80 == (1 : Int)) then
      some ((0 : Int), (0 : Int))
     else
      if (decide ((255 : Int) < v_79)) then
       some ((0 : Int), (0 : Int))
      else
       some (v_79, n_80)
    else
     loopO (G_burinref05_escape_L3 s_2) ((0 : Int), (0 : Int)) >>= fun (v_129, n_130) =>
     if (decide ((255 : Int) < v_129)) then
      some ((0 : Int), (0 : Int))
     else
      some (v_129, n_130)
theorem G_burinref05_escape_ok {s_2 : Bytes} {r3 : Int} {r4 : Int} (hx : G_burinref05_escape s_2 = some (r3, r4)) : PureE E 83 [(.str s_2)] (fun v => v = (.tuple [(.int .i64 r3), (.int .i64 r4)])) := by
 refine pureE_ok fn_burinref05_escape rfl ?_
 have hb := hx
 dsimp only [G_burinref05_escape] at hb
 have X := True.intro
 refine Tw ?_
 refine bq_if hb rfl (fun c5 hb => ?_) (fun c5 hb => ?_)
 ·have hb := Option.some.inj hb
  obtain ⟨e0, e1⟩ := Prod.mk.inj hb
  subst e0
  subst e1
  have X := And.intro c5 X
  refine Tw ?_
  exact endI rfl
 ·have X := And.intro c5 X
  refine Tw ?_
  refine bnd1 hb (fun q37 h38 hb => ?_)
  refine G_burinref05_escape_L1_ok _ _ h38 trivial trivial _ Cw ?_ ?_
  ·intro f27 v26 ex Y29
   subst ex
   try dsimp only at hb
   have hb := Option.some.inj hb
   obtain ⟨e0, e1⟩ := Prod.mk.inj hb
   subst e0
   subst e1
   have X := And.intro Y29 X
   refine Tw ?_
   exact endI rfl
  ·intro f32 ex Y34
   subst ex
   try dsimp only at hb
   have X := And.intro Y34 X
   refine Tw ?_
   refine vq_idxS hb (fun x42 hx42 hb => ?_)
   refine Tw ?_
   refine bq_if hb rfl (fun c43 hb => ?_) (fun c43 hb => ?_)
   ·have X := And.intro c43 X
    refine Tw ?_
    refine bnd1 hb (fun q86 h87 hb => ?_)
    refine G_burinref05_escape_L2_ok _ _ _ h87 trivial trivial _ Cw ?_
    ·intro f81 v_79 n_80 ex Y83
     subst ex
     try dsimp only at hb
     have X := And.intro Y83 X
     refine Tw ?_
     refine bq_if hb rfl (fun c90 hb => ?_) (fun c90 hb => ?_)
     ·have hb := Option.some.inj hb
      obtain ⟨e0, e1⟩ := Prod.mk.inj hb
      subst e0
      subst e1
      have X := And.intro c90 X
      refine Tw ?_
      exact endI rfl
     ·have X := And.intro c90 X
      refine Tw ?_
      refine bq_if hb rfl (fun c91 hb => ?_) (fun c91 hb => ?_)
      ·have hb := Option.some.inj hb
       obtain ⟨e0, e1⟩ := Prod.mk.inj hb
       subst e0
       subst e1
       have X := And.intro c91 X
       refine Tw ?_
       exact endI rfl
      ·have hb := Option.some.inj hb
       obtain ⟨e0, e1⟩ := Prod.mk.inj hb
       subst e0
       subst e1
       have X := And.intro c91 X
       refine Tw ?_
       exact endI rfl
   ·have X := And.intro c43 X
    refine Tw ?_
    refine bnd1 hb (fun q136 h137 hb => ?_)
    refine G_burinref05_escape_L3_ok _ _ _ h137 trivial trivial _ Cw ?_
    ·intro f131 v_129 n_130 ex Y133
     subst ex
     try dsimp only at hb
     have X := And.intro Y133 X
     refine Tw ?_
     refine bq_if hb rfl (fun c140 hb => ?_) (fun c140 hb => ?_)
     ·have hb := Option.some.inj hb
      obtain ⟨e0, e1⟩ := Prod.mk.inj hb
      subst e0
      subst e1
      have X := And.intro c140 X
      refine Tw ?_
      exact endI rfl
     ·have hb := Option.some.inj hb
      obtain ⟨e0, e1⟩ := Prod.mk.inj hb
      subst e0
      subst e1
      have X := And.intro c140 X
      refine Tw ?_
      exact endI rfl
def G_burinref05_Bytes_L1 (s_9 : Bytes) : List UInt8 × Int → Option ((List UInt8 × Int) ⊕ (Ex2 (List UInt8) (List UInt8))) := fun (out_10, i_15) =>
 if (decide (i_15 < ((List.length s_9 : Nat) : Int))) then
  idx s_9 i_15 >>= fun x28 =>
  if (!((x28.toNat : Int) == (92 : Int))) then
   idx s_9 i_15 >>= fun x30 =>
   app 1 out_10 [x30] >>= fun t32 =>
   some (Sum.inl (t32, (IntKind.wrap .i64 (i_15 + (1 : Int)))))
  else
   subF s_9 (IntKind.wrap .i64 (i_15 + (1 : Int))) >>= fun t41 =>
   G_burinref05_escape t41 >>= fun (r42, r43) =>
   if (r43 == (0 : Int)) then
    some (Sum.inr (Ex2.a ([] : List UInt8)))
   else
    b8 (IntKind.wrap .u8 r42) >>= fun c46 =>
    app 1 out_10 [c46] >>= fun t48 =>
    some (Sum.inl (t48, (IntKind.wrap .i64 ((IntKind.wrap .i64 (i_15 + r43)) + (1 : Int)))))
 else
  some (Sum.inr (Ex2.b out_10))
theorem G_burinref05_Bytes_L1_ok {κ : Kt} {t : Blk κ} {s_9 : Bytes} (out_10 : List UInt8) (i_15 : Int) (x : Ex2 (List UInt8) (List UInt8)) (hx : loopO (G_burinref05_Bytes_L1 s_9) (out_10, i_15) = some x) : ∀ (f16 : Fr) (h17 : Heap) (o11 : Own) (e12 : Nat) (M13 : List (List PV)), (f16 0 = (.str s_9) ∧ f16 4 = (.slice o11 e12 M13) ∧ f16 5 = (.int .i64 i_15)) → (OwnOK h17 o11) → (True) → SlR 1 R8 o11 e12 out_10 M13 → (∀ (f62 : Fr) (h63 : Heap) (v57 : List UInt8) (o58 : Own) (e59 : Nat) (M60 : List (List PV)), Ex2.a v57 = x → (f62 2 = (.slice o58 e59 M60) ∧ f62 3 = (.bool false) ∧ OwnOK h63 o58) → (True) → SlR 1 R8 o58 e59 v57 M60 → κ.R f62 h63) → (∀ (f73 : Fr) (h74 : Heap) (out_68 : List UInt8) (o69 : Own) (e70 : Nat) (M71 : List (List PV)), Ex2.b out_68 = x → (f73 4 = (.slice o69 e70 M71) ∧ OwnOK h74 o69) → (True) → SlR 1 R8 o69 e70 out_68 M71 → κ.B 0 f73 h74) → Lq E (.loop L_burinref05_Bytes_1) κ t f16 h17 := by
 revert out_10 i_15 x
 refine loop2' ?_
 intro out_10 i_15 r hb x hn f16 h17 o11 e12 M13 Y18 Y19 Y20 s14 ex0 ex1
 dsimp only [G_burinref05_Bytes_L1] at hb
 refine loop_step L_burinref05_Bytes_1.eq_1 ?_
 have X := And.intro Y18 (And.intro Y19 (s14.len))
 refine Tw ?_
 refine Tw ?_
 refine bq_if hb rfl (fun c27 hb => ?_) (fun c27 hb => ?_)
 ·have X := And.intro c27 X
  refine Tw ?_
  refine vq_idxS hb (fun x28 hx28 hb => ?_)
  refine Tw ?_
  refine bq_if hb rfl (fun c29 hb => ?_) (fun c29 hb => ?_)
  ·have X := And.intro c29 X
   refine Tw ?_
   refine vq_idxS hb (fun x30 hx30 hb => ?_)
   refine Tw ?_
   refine vq_bsl rfl ?_
   refine Tw ?_
   refine vq_app s14 Cw (show SlR 1 R8 (.own h17.n) 1 ([x30] : List UInt8) [[(.int .u8 (x30.toNat : Int))]] from (slr_cons (by simp) rfl (slr_0 (R := R8)))) hb (fun t32 o33 M34 h35 ht32 hb s36 O37 F38 => ?_)
   have q39 := F38.n
   try simp only [HN] at q39
   have hb := Option.some.inj hb
   subst hb
   have X := And.intro F38.box (And.intro F38.loop (And.intro F38.bty (And.intro O37 (And.intro s36.len X))))
   refine Tw ?_
   exact hn _ _ o33 1 M34 Cw Cw trivial s36 ex0 ex1
  ·have X := And.intro c29 X
   refine Tw ?_
   refine vq_subFs hb (fun t41 ht41 hb => ?_)
   refine Tw ?_
   refine bnd2 hb (fun r42 r43 h44 hb => ?_)
   try dsimp only at hb
   refine pq_eq (G_burinref05_escape_ok h44) ?_
   refine Tw ?_
   refine bq_if hb rfl (fun c45 hb => ?_) (fun c45 hb => ?_)
   ·have hb := Option.some.inj hb
    subst hb
    have hn : _ = _ := hn
    subst hn
    have X := And.intro c45 X
    refine Tw ?_
    exact ex0 _ _ ([] : List UInt8) .nil 0 [] rfl Cw trivial (slr_nil (R := R8))
   ·refine b8b1 hb (fun c46 hc46 ec46 hb => ?_)
    have X := And.intro c45 X
    refine Tw ?_
    refine vq_bsl rfl ?_
    refine Tw ?_
    refine vq_app s14 Cw (show SlR 1 R8 (.own h17.n) 1 ([c46] : List UInt8) [[(.int .u8 (IntKind.wrap .u8 r42))]] from (slr_cons (by simp) (r8_of hc46) (slr_0 (R := R8)))) hb (fun t48 o49 M50 h51 ht48 hb s52 O53 F54 => ?_)
    have q55 := F54.n
    try simp only [HN] at q55
    have hb := Option.some.inj hb
    subst hb
    have X := And.intro F54.box (And.intro F54.loop (And.intro F54.bty (And.intro O53 (And.intro s52.len X))))
    refine Tw ?_
    exact hn _ _ o49 1 M50 Cw Cw trivial s52 ex0 ex1
 ·have hb := Option.some.inj hb
  subst hb
  have hn : _ = _ := hn
  subst hn
  have X := And.intro c27 X
  refine Tw ?_
  exact ex1 _ _ out_10 o11 e12 M13 rfl Cw trivial s14
def G_burinref05_Bytes (s_2 : Bytes) : Option (List UInt8 × Bool) :=
 loopO (G_burinref05_Bytes_L1 s_2) (([] : List UInt8), (0 : Int)) >>= fun q79 => match q79 with
  | .a v57 =>
   some (v57, false)
  | .b out_68 =>
   some (out_68, true)
theorem G_burinref05_Bytes_ok {s_2 : Bytes} {r3 : List UInt8} {r4 : Bool} (hx : G_burinref05_Bytes s_2 = some (r3, r4)) : PureE E 57 [(.str s_2)] (fun v => ∃ o5 e6 M7, v = (.tuple [(.slice o5 e6 M7), (.bool r4)]) ∧ SlR 1 R8 o5 e6 r3 M7) := by
 refine pureE_ok fn_burinref05_Bytes rfl ?_
 have hb := hx
 dsimp only [G_burinref05_Bytes] at hb
 have X := True.intro
 refine Tw ?_
 refine bnd1 hb (fun q79 h80 hb => ?_)
 refine G_burinref05_Bytes_L1_ok _ _ _ h80 _ _ .nil 0 [] Cw Cw trivial (slr_nil (R := R8)) ?_ ?_
 ·intro f62 h63 v57 o58 e59 M60 ex Y64 Y66 s61
  subst ex
  try dsimp only at hb
  have hb := Option.some.inj hb
  obtain ⟨e0, e1⟩ := Prod.mk.inj hb
  subst e0
  subst e1
  have X := And.intro Y64 (And.intro s61.len X)
  refine Tw ?_
  exact endI ⟨(stO o58), e59, M60, rfl, s61.st⟩
 ·intro f73 h74 out_68 o69 e70 M71 ex Y75 Y77 s72
  subst ex
  try dsimp only at hb
  have hb := Option.some.inj hb
  obtain ⟨e0, e1⟩ := Prod.mk.inj hb
  subst e0
  subst e1
  have X := And.intro Y75 (And.intro s72.len X)
  refine Tw ?_
  exact endI ⟨(stO o69), e70, M71, rfl, s72.st⟩
def G_burinref05_Char (s_2 : Bytes) : Option (Int × Int) :=
 (
  if (decide (((List.length s_2 : Nat) : Int) < (3 : Int))) then
   some (Ex2.a ((0 : Int), (50 : Int)))
  else
   idx s_2 (0 : Int) >>= fun x10 =>
   if (!((x10.toNat : Int) == (39 : Int))) then
    some (Ex2.a ((0 : Int), (50 : Int)))
   else
    idx s_2 (IntKind.wrap .i64 (((List.length s_2 : Nat) : Int) - (1 : Int))) >>= fun x13 =>
    if (!((x13.toNat : Int) == (39 : Int))) then
     some (Ex2.a ((0 : Int), (50 : Int)))
    else
     some (Ex2.b ())
 ) >>= fun j21 => match j21 with
  | .a q => some q
  | .b () =>
   subB s_2 (1 : Int) (IntKind.wrap .i64 (((List.length s_2 : Nat) : Int) - (1 : Int))) >>= fun t23 =>
   G_burinref05_Bytes t23 >>= fun (r24, r29) =>
   if (!r29) then
    some ((0 : Int), (50 : Int))
   else
    if (!(((List.length r24 : Nat) : Int) == (1 : Int))) then
     some ((0 : Int), (50 : Int))
    else
     if (t23 == ([39] : Bytes)) then
      some ((0 : Int), (50 : Int))
     else
      if (t23 == ([10] : Bytes)) then
       some ((0 : Int), (50 : Int))
      else
       if (t23 == ([13] : Bytes)) then
        some ((0 : Int), (50 : Int))
       else
        idx r24 (0 : Int) >>= fun x36 =>
        some ((IntKind.wrap .i64 (IntKind.wrap .i8 (x36.toNat : Int))), (0 : Int))
theorem G_burinref05_Char_ok {s_2 : Bytes} {r3 : Int} {r4 : Int} (hx : G_burinref05_Char s_2 = some (r3, r4)) : PureE E 59 [(.str s_2)] (fun v => v = (.tuple [(.int .i64 r3), (.int .i64 r4)])) := by
 refine pureE_ok fn_burinref05_Char rfl ?_
 have hb := hx
 dsimp only [G_burinref05_Char] at hb
 have X := True.intro
 refine Tw ?_
 refine bnd1 hb (fun j21 hj hb => ?_)
 refine wq_joinF (fun Z => ∀ (f16 : Fr), Ex2.b () = j21 → (f16 0 = (.str s_2)) → Z f16) (fun Z hX7 => ?_) ?_
 ·have hr6 := hb
  clear hb
  have hb := hj
  clear hj
  refine wq_def J_burinref05_Char_1.eq_1 ?_
  refine Tw ?_
  refine Tw ?_
  refine bq_if hb rfl (fun c8 hb => ?_) (fun c8 hb => ?_)
  ·have hq := Option.some.inj hb
   subst hq
   try dsimp only at hr6
   have hb := hr6
   have hb := Option.some.inj hb
   obtain ⟨e0, e1⟩ := Prod.mk.inj hb
   subst e0
   subst e1
   have X := And.intro c8 X
   refine Tw ?_
   exact endI rfl
  ·have X := And.intro c8 X
   refine Tw ?_
   refine vq_idxS hb (fun x10 hx10 hb => ?_)
   refine Tw ?_
   refine bq_if hb rfl (fun c11 hb => ?_) (fun c11 hb => ?_)
   ·have hq := Option.some.inj hb
    subst hq
    try dsimp only at hr6
    have hb := hr6
    have hb := Option.some.inj hb
    obtain ⟨e0, e1⟩ := Prod.mk.inj hb
    subst e0
    subst e1
    have X := And.intro c11 X
    refine Tw ?_
    exact endI rfl
   ·have X := And.intro c11 X
    refine Tw ?_
    refine vq_idxS hb (fun x13 hx13 hb => ?_)
    refine Tw ?_
    refine bq_if hb rfl (fun c14 hb => ?_) (fun c14 hb => ?_)
    ·have hq := Option.some.inj hb
     subst hq
     try dsimp only at hr6
     have hb := hr6
     have hb := Option.some.inj hb
     obtain ⟨e0, e1⟩ := Prod.mk.inj hb
     subst e0
     subst e1
     have X := And.intro c14 X
     refine Tw ?_
     exact endI rfl
    ·have hb := Option.some.inj hb
     subst hb
     have X := And.intro c14 X
     refine Tw ?_
     exact hX7 _ rfl Cw
 ·intro f16 ej Y18
  subst ej
  try dsimp only at hb
  have X := And.intro Y18 X
  refine Tw ?_
  refine vq_subBs hb (fun t23 ht23 hb => ?_)
  refine Tw ?_
  refine bnd2 hb (fun r24 r29 h30 hb => ?_)
  try dsimp only at hb
  refine pq_in1 (G_burinref05_Bytes_ok h30) (fun o25 e26 M27 s28 => ?_)
  have X := And.intro s28.len X
  refine Tw ?_
  refine bq_if hb rfl (fun c31 hb => ?_) (fun c31 hb => ?_)
  ·have hb := Option.some.inj hb
   obtain ⟨e0, e1⟩ := Prod.mk.inj hb
   subst e0
   subst e1
   have X := And.intro c31 X
   refine Tw ?_
   exact endI rfl
  ·have X := And.intro c31 X
   refine Tw ?_
   refine bq_if hb rfl (fun c32 hb => ?_) (fun c32 hb => ?_)
   ·have hb := Option.some.inj hb
    obtain ⟨e0, e1⟩ := Prod.mk.inj hb
    subst e0
    subst e1
    have X := And.intro c32 X
    refine Tw ?_
    exact endI rfl
   ·have X := And.intro c32 X
    refine Tw ?_
    refine bq_if hb rfl (fun c33 hb => ?_) (fun c33 hb => ?_)
    ·have hb := Option.some.inj hb
     obtain ⟨e0, e1⟩ := Prod.mk.inj hb
     subst e0
     subst e1
     have X := And.intro c33 X
     refine Tw ?_
     exact endI rfl
    ·have X := And.intro c33 X
     refine Tw ?_
     refine bq_if hb rfl (fun c34 hb => ?_) (fun c34 hb => ?_)
     ·have hb := Option.some.inj hb
      obtain ⟨e0, e1⟩ := Prod.mk.inj hb
      subst e0
      subst e1
      have X := And.intro c34 X
      refine Tw ?_
      exact endI rfl
     ·have X := And.intro c34 X
      refine Tw ?_
      refine bq_if hb rfl (fun c35 hb => ?_) (fun c35 hb => ?_)
      ·have hb := Option.some.inj hb
       obtain ⟨e0, e1⟩ := Prod.mk.inj hb
       subst e0
       subst e1
       have X := And.intro c35 X
       refine Tw ?_
       exact endI rfl
      ·have X := And.intro c35 X
       refine Tw ?_
       refine vq_iaddr s28 hb (fun x36 cs37 hx36 hb hcs37 => ?_)
       cases (show cs37 = [(.int .u8 (x36.toNat : Int))] from hcs37)
       have hb := Option.some.inj hb
       obtain ⟨e0, e1⟩ := Prod.mk.inj hb
       subst e0
       subst e1
       refine Tw ?_
       exact endI rfl
def G_burinref05_parser_atom_b (F : Rec_burinref05_parser_choice) (p_2 : T_burinref05_parser) (live_9 : Bool) : Option (T_burinref05_Value × T_burinref05_parser) :=
 G_burinref05_parser_takes p_2 ([40] : Bytes) >>= fun (r21, p22) =>
 if r21 then
  F.burinref05_parser_choice p22 live_9 >>= fun (r35, p36) =>
  G_burinref05_parser_takes p36 ([41] : Bytes) >>= fun (r51, p52) =>
  if p52.ok_ then
   some (r35, (T_burinref05_parser.mk p52.l_ p52.at_ r51))
  else
   some (r35, (T_burinref05_parser.mk p52.l_ p52.at_ false))
 else
  (
   if (!p22.ok_) then
    some (Ex2.a ((T_burinref05_Value.mk (0 : Int) false), (T_burinref05_parser.mk p22.l_ p22.at_ false)))
   else
    if (decide (((List.length p22.l_ : Nat) : Int) ≤ p22.at_)) then
     some (Ex2.a ((T_burinref05_Value.mk (0 : Int) false), (T_burinref05_parser.mk p22.l_ p22.at_ false)))
    else
     some (Ex2.b ())
  ) >>= fun j87 => match j87 with
   | .a q => some q
   | .b () =>
    idx p22.l_ p22.at_ >>= fun x90 =>
    if (x90.Kind_ == (1 : Int)) then
     some ((T_burinref05_Value.mk (0 : Int) false), (T_burinref05_parser.mk p22.l_ (IntKind.wrap .i64 (p22.at_ + (1 : Int))) p22.ok_))
    else
     if (x90.Kind_ == (2 : Int)) then
      G_burinref05_Number x90.S_ >>= fun (r99, r100, r101) =>
      if (r101 == (0 : Int)) then
       if r100 then
        some ((T_burinref05_Value.mk r99 true), (T_burinref05_parser.mk p22.l_ (IntKind.wrap .i64 (p22.at_ + (1 : Int))) true))
       else
        some ((T_burinref05_Value.mk r99 false), (T_burinref05_parser.mk p22.l_ (IntKind.wrap .i64 (p22.at_ + (1 : Int))) (decide (r99 < (9223372036854775808 : Int)))))
      else
       some ((T_burinref05_Value.mk r99 r100), (T_burinref05_parser.mk p22.l_ (IntKind.wrap .i64 (p22.at_ + (1 : Int))) false))
     else
      if (x90.Kind_ == (3 : Int)) then
       G_burinref05_Char x90.S_ >>= fun (r112, r113) =>
       some ((T_burinref05_Value.mk (IntKind.wrap .u64 r112) false), (T_burinref05_parser.mk p22.l_ (IntKind.wrap .i64 (p22.at_ + (1 : Int))) (r113 == (0 : Int))))
      else
       some ((T_burinref05_Value.mk (0 : Int) false), (T_burinref05_parser.mk p22.l_ (IntKind.wrap .i64 (p22.at_ + (1 : Int))) false))
theorem G_burinref05_parser_atom_b_ok {F : Rec_burinref05_parser_choice} (hF : Rec_burinref05_parser_choice.OK F) {h1 : Heap} {b4 : Nat} {p_2 : T_burinref05_parser} {live_9 : Bool} {o5 : Own} {e6 : Nat} {M7 : List (List PV)} {r10 : T_burinref05_Value} {r11 : T_burinref05_parser} (hx : G_burinref05_parser_atom_b F p_2 live_9 = some (r10, r11)) (z16 : h1.box b4 = some [(.slice o5 e6 M7), (.int .i64 p_2.at_), (.bool p_2.ok_)]) (w17 : b4 < h1.n) (s8 : SlR 6 T_api_Tok.R o5 e6 p_2.l_ M7) : CallC E (.func 129 [] []) [(.ptr b4 0), (.bool live_9)] h1 (fun v h18 => ∃ o12 e13 M14, v = (.agg [(.int .u64 r10.V_), (.bool r10.U_)]) ∧ h18.box b4 = some [(.slice o12 e13 M14), (.int .i64 r11.at_), (.bool r11.ok_)] ∧ FrB [b4] h1 h18 ∧ SlR 6 T_api_Tok.R o12 e13 r11.l_ M14) := by
 refine callE_ok fn_burinref05_parser_atom rfl ?_
 have hb := hx
 dsimp only [G_burinref05_parser_atom_b] at hb
 have X := And.intro z16 (s8.len)
 refine Tw ?_
 refine bnd2 hb (fun r21 p22 h27 hb => ?_)
 try dsimp only at hb
 refine fq_mono1 (G_burinref05_parser_takes_ok h27 Cw Cn s8) (fun o23 e24 M25 h28 S119 => ?_)
 have z31 := S119.1
 have F29 := S119.2.1
 have s26 := S119.2.2
 have q30 := F29.n
 try simp only [HN] at q30
 have F32 : FrB [b4] h1 h28 := FrB.call Cf F29 (by intro j hj; simp only [List.mem_cons, List.not_mem_nil, or_false] at hj; first | (subst hj; left; simp; done) | (right; omega))
 have X := And.intro z31 (And.intro F29.box1 (And.intro F29.loop (And.intro F29.bty (And.intro F32 (And.intro s26.len X)))))
 refine Tw ?_
 refine bq_if hb rfl (fun c34 hb => ?_) (fun c34 hb => ?_)
 ·have X := And.intro c34 X
  refine Tw ?_
  refine bnd2 hb (fun r35 p36 h41 hb => ?_)
  try dsimp only at hb
  refine fq_mono1 (hF.burinref05_parser_choice h41 Cw Cn s26) (fun o37 e38 M39 h42 S70 => ?_)
  have z45 := S70.1
  have F43 := S70.2.1
  have s40 := S70.2.2
  have q44 := F43.n
  try simp only [HN] at q44
  have F46 : FrB [b4] h1 h42 := FrB.call Cf F43 (by intro j hj; simp only [List.mem_cons, List.not_mem_nil, or_false] at hj; first | (subst hj; left; simp; done) | (right; omega))
  have X := And.intro z45 (And.intro F43.box1 (And.intro F43.loop (And.intro F43.bty (And.intro F46 (And.intro s40.len X)))))
  refine Tw ?_
  refine bnd2 hb (fun r51 p52 h57 hb => ?_)
  try dsimp only at hb
  refine fq_mono1 (G_burinref05_parser_takes_ok h57 Cw Cn s40) (fun o53 e54 M55 h58 S69 => ?_)
  have z61 := S69.1
  have F59 := S69.2.1
  have s56 := S69.2.2
  have q60 := F59.n
  try simp only [HN] at q60
  have F62 : FrB [b4] h1 h58 := FrB.call Cf F59 (by intro j hj; simp only [List.mem_cons, List.not_mem_nil, or_false] at hj; first | (subst hj; left; simp; done) | (right; omega))
  have X := And.intro z61 (And.intro F59.box1 (And.intro F59.loop (And.intro F59.bty (And.intro F62 (And.intro s56.len X)))))
  refine Tw ?_
  refine bq_if hb rfl (fun c64 hb => ?_) (fun c64 hb => ?_)
  ·have hb := Option.some.inj hb
   obtain ⟨e0, e1⟩ := Prod.mk.inj hb
   subst e0
   subst e1
   have X := And.intro c64 X
   refine Tw ?_
   exact endHI ⟨o53, e54, M55, rfl, Cw, Cf, s56⟩
  ·have hb := Option.some.inj hb
   obtain ⟨e0, e1⟩ := Prod.mk.inj hb
   subst e0
   subst e1
   have X := And.intro c64 X
   refine Tw ?_
   exact endHI ⟨o53, e54, M55, rfl, Cw, Cf, s56⟩
 ·have X := And.intro c34 X
  refine Tw ?_
  refine bnd1 hb (fun j87 hj hb => ?_)
  refine wq_joinF (fun Z => ∀ (f82 : Fr), Ex2.b () = j87 → (f82 0 = (.ptr b4 0) ∧ f82 4 = (.ptr h1.n 0)) → Z f82) (fun Z hX73 => ?_) ?_
  ·have hr72 := hb
   clear hb
   have hb := hj
   clear hj
   refine wq_def J_burinref05_parser_atom_1.eq_1 ?_
   refine Tw ?_
   refine Tw ?_
   refine bq_if hb rfl (fun c74 hb => ?_) (fun c74 hb => ?_)
   ·have hq := Option.some.inj hb
    subst hq
    try dsimp only at hr72
    have hb := hr72
    have hb := Option.some.inj hb
    obtain ⟨e0, e1⟩ := Prod.mk.inj hb
    subst e0
    subst e1
    have X := And.intro c74 X
    refine Tw ?_
    exact endHI ⟨o23, e24, M25, rfl, Cw, Cf, s26⟩
   ·have X := And.intro c74 X
    refine Tw ?_
    refine bq_if hb rfl (fun c78 hb => ?_) (fun c78 hb => ?_)
    ·have hq := Option.some.inj hb
     subst hq
     try dsimp only at hr72
     have hb := hr72
     have hb := Option.some.inj hb
     obtain ⟨e0, e1⟩ := Prod.mk.inj hb
     subst e0
     subst e1
     have X := And.intro c78 X
     refine Tw ?_
     exact endHI ⟨o23, e24, M25, rfl, Cw, Cf, s26⟩
    ·have hb := Option.some.inj hb
     subst hb
     have X := And.intro c78 X
     refine Tw ?_
     exact hX73 _ rfl Cf
  ·intro f82 ej Y84
   subst ej
   try dsimp only at hb
   have X := And.intro Y84 X
   refine Tw ?_
   refine vq_iaddr s26 hb (fun x90 cs91 hx90 hb hcs91 => ?_)
   cases (show cs91 = [(.int .i64 x90.Kind_), (.str x90.S_), (.str x90.File_), (.int .i64 x90.Line_), (.bool x90.Space_), (.bool x90.First_)] from hcs91)
   refine Tw ?_
   refine bq_if hb rfl (fun c96 hb => ?_) (fun c96 hb => ?_)
   ·have hb := Option.some.inj hb
    obtain ⟨e0, e1⟩ := Prod.mk.inj hb
    subst e0
    subst e1
    have X := And.intro c96 X
    refine Tw ?_
    exact endHI ⟨o23, e24, M25, rfl, Cw, Cf, s26⟩
   ·have X := And.intro c96 X
    refine Tw ?_
    refine bq_if hb rfl (fun c98 hb => ?_) (fun c98 hb => ?_)
    ·have X := And.intro c98 X
     refine Tw ?_
     refine bnd3 hb (fun r99 r100 r101 h102 hb => ?_)
     try dsimp only at hb
     refine pq_eq (G_burinref05_Number_ok h102) ?_
     refine Tw ?_
     refine bq_if hb rfl (fun c103 hb => ?_) (fun c103 hb => ?_)
     ·have X := And.intro c103 X
      refine Tw ?_
      refine bq_if hb rfl (fun c104 hb => ?_) (fun c104 hb => ?_)
      ·have hb := Option.some.inj hb
       obtain ⟨e0, e1⟩ := Prod.mk.inj hb
       subst e0
       subst e1
       have X := And.intro c104 X
       refine Tw ?_
       exact endHI ⟨o23, e24, M25, rfl, Cw, Cf, s26⟩
      ·have hb := Option.some.inj hb
       obtain ⟨e0, e1⟩ := Prod.mk.inj hb
       subst e0
       subst e1
       have X := And.intro c104 X
       refine Tw ?_
       exact endHI ⟨o23, e24, M25, rfl, Cw, Cf, s26⟩
     ·have hb := Option.some.inj hb
      obtain ⟨e0, e1⟩ := Prod.mk.inj hb
      subst e0
      subst e1
      have X := And.intro c103 X
      refine Tw ?_
      exact endHI ⟨o23, e24, M25, rfl, Cw, Cf, s26⟩
    ·have X := And.intro c98 X
     refine Tw ?_
     refine bq_if hb rfl (fun c111 hb => ?_) (fun c111 hb => ?_)
     ·have X := And.intro c111 X
      refine Tw ?_
      refine bnd2 hb (fun r112 r113 h114 hb => ?_)
      try dsimp only at hb
      refine pq_eq (G_burinref05_Char_ok h114) ?_
      have hb := Option.some.inj hb
      obtain ⟨e0, e1⟩ := Prod.mk.inj hb
      subst e0
      subst e1
      refine Tw ?_
      exact endHI ⟨o23, e24, M25, rfl, Cw, Cf, s26⟩
     ·have hb := Option.some.inj hb
      obtain ⟨e0, e1⟩ := Prod.mk.inj hb
      subst e0
      subst e1
      have X := And.intro c111 X
      refine Tw ?_
      exact endHI ⟨o23, e24, M25, rfl, Cw, Cf, s26⟩
def Rec_burinref05_parser_choice.lvl : Nat → Rec_burinref05_parser_choice
 | 0 => ⟨fun _ _ => none, fun _ _ _ => none, fun _ _ => none, fun _ _ => none⟩
 | j + 1 => ⟨G_burinref05_parser_choice_b (Rec_burinref05_parser_choice.lvl j), G_burinref05_parser_chain_b (Rec_burinref05_parser_choice.lvl j), G_burinref05_parser_front_b (Rec_burinref05_parser_choice.lvl j), G_burinref05_parser_atom_b (Rec_burinref05_parser_choice.lvl j)⟩
theorem Rec_burinref05_parser_choice.lvl_ok : ∀ j, (Rec_burinref05_parser_choice.lvl j).OK
 | 0 => ⟨(fun hx _ _ _ => none_elim hx), (fun hx _ _ _ => none_elim hx), (fun hx _ _ _ => none_elim hx), (fun hx _ _ _ => none_elim hx)⟩
 | j + 1 => ⟨fun hx a0 a1 a2 => G_burinref05_parser_choice_b_ok (Rec_burinref05_parser_choice.lvl_ok j) hx a0 a1 a2, fun hx a0 a1 a2 => G_burinref05_parser_chain_b_ok (Rec_burinref05_parser_choice.lvl_ok j) hx a0 a1 a2, fun hx a0 a1 a2 => G_burinref05_parser_front_b_ok (Rec_burinref05_parser_choice.lvl_ok j) hx a0 a1 a2, fun hx a0 a1 a2 => G_burinref05_parser_atom_b_ok (Rec_burinref05_parser_choice.lvl_ok j) hx a0 a1 a2⟩
def G_burinref05_parser_choice (k : Nat) : T_burinref05_parser → Bool → Option (T_burinref05_Value × T_burinref05_parser) := (Rec_burinref05_parser_choice.lvl k).burinref05_parser_choice
theorem G_burinref05_parser_choice_ok {k : Nat} {h1 : Heap} {b4 : Nat} {p_2 : T_burinref05_parser} {live_9 : Bool} {o5 : Own} {e6 : Nat} {M7 : List (List PV)} {r10 : T_burinref05_Value} {r11 : T_burinref05_parser} (hx : G_burinref05_parser_choice k p_2 live_9 = some (r10, r11)) (z16 : h1.box b4 = some [(.slice o5 e6 M7), (.int .i64 p_2.at_), (.bool p_2.ok_)]) (w17 : b4 < h1.n) (s8 : SlR 6 T_api_Tok.R o5 e6 p_2.l_ M7) : CallC E (.func 39 [] []) [(.ptr b4 0), (.bool live_9)] h1 (fun v h18 => ∃ o12 e13 M14, v = (.agg [(.int .u64 r10.V_), (.bool r10.U_)]) ∧ h18.box b4 = some [(.slice o12 e13 M14), (.int .i64 r11.at_), (.bool r11.ok_)] ∧ FrB [b4] h1 h18 ∧ SlR 6 T_api_Tok.R o12 e13 r11.l_ M14) := (Rec_burinref05_parser_choice.lvl_ok k).burinref05_parser_choice hx z16 w17 s8
end Go.Proofs.YtmngkcpobmhnoaaGreatDoor.Sim
