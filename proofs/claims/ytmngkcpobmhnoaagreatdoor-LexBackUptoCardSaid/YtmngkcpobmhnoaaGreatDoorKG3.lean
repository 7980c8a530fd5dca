/- Printed functions, continued. -/
import Derived.Test.YtmngkcpobmhnoaaGreatDoorKG2
set_option linter.all false
set_option maxHeartbeats 4000000
set_option maxRecDepth 20000
namespace Go.Proofs.YtmngkcpobmhnoaaGreatDoor.Sim
def G_internal_strconv_lower (c_2 : Int) : Option (Int) :=
 some (bor .u8 c_2 (32 : Int))
theorem G_internal_strconv_lower_ok {c_2 : Int} {r3 : Int} (hx : G_internal_strconv_lower c_2 = some r3) : PureE E 108 [(.int .u8 c_2)] (fun v => v = (.int .u8 r3)) := by
 refine pureE_ok fn_internal_strconv_lower rfl ?_
 have hb := hx
 dsimp only [G_internal_strconv_lower] at hb
 have hb := Option.some.inj hb
 subst hb
 have X := True.intro
 refine Tw ?_
 exact endI rfl
def G_internal_strconv_underscoreOK_L1 (s_73 : Bytes) : Int × Int × Bool → Option ((Int × Int × Bool) ⊕ (Ex2 (Unit) (Int))) := fun (saw_74, i_75, hex_76) =>
 if (decide (i_75 < ((List.length s_73 : Nat) : Int))) then
  (
   idx s_73 i_75 >>= fun x92 =>
   if (decide ((48 : Int) ≤ (x92.toNat : Int))) then
    idx s_73 i_75 >>= fun x94 =>
    if (decide ((x94.toNat : Int) ≤ (57 : Int))) then
     some (Ex2.a (Sum.inl ((48 : Int), (IntKind.wrap .i64 (i_75 + (1 : Int))), hex_76)))
    else
     if hex_76 then
      idx s_73 i_75 >>= fun x98 =>
      G_internal_strconv_lower (x98.toNat : Int) >>= fun r99 =>
      if (decide ((97 : Int) ≤ r99)) then
       idx s_73 i_75 >>= fun x102 =>
       G_internal_strconv_lower (x102.toNat : Int) >>= fun r103 =>
       if (decide (r103 ≤ (102 : Int))) then
        some (Ex2.a (Sum.inl ((48 : Int), (IntKind.wrap .i64 (i_75 + (1 : Int))), true)))
       else
        some (Ex2.b true)
      else
       some (Ex2.b true)
     else
      some (Ex2.b false)
   else
    if hex_76 then
     idx s_73 i_75 >>= fun x108 =>
     G_internal_strconv_lower (x108.toNat : Int) >>= fun r109 =>
     if (decide ((97 : Int) ≤ r109)) then
      idx s_73 i_75 >>= fun x112 =>
      G_internal_strconv_lower (x112.toNat : Int) >>= fun r113 =>
      if (decide (r113 ≤ (102 : Int))) then
       some (Ex2.a (Sum.inl ((48 : Int), (IntKind.wrap .i64 (i_75 + (1 : Int))), true)))
      else
       some (Ex2.b true)
     else
      some (Ex2.b true)
    else
     some (Ex2.b false)
  ) >>= fun j123 => match j123 with
   | .a q => some q
   | .b hex_117 =>
    idx s_73 i_75 >>= fun x128 =>
    if ((x128.toNat : Int) == (95 : Int)) then
     if (!(saw_74 == (48 : Int))) then
      some (Sum.inr (Ex2.a ()))
     else
      some (Sum.inl ((95 : Int), (IntKind.wrap .i64 (i_75 + (1 : Int))), hex_117))
    else
     if (saw_74 == (95 : Int)) then
      some (Sum.inr (Ex2.a ()))
     else
      some (Sum.inl ((33 : Int), (IntKind.wrap .i64 (i_75 + (1 : Int))), hex_117))
 else
  some (Sum.inr (Ex2.b saw_74))
theorem G_internal_strconv_underscoreOK_L1_ok {κ : Kt} {t : Blk κ} {s_73 : Bytes} {h78 : Heap} (saw_74 : Int) (i_75 : Int) (hex_76 : Bool) (x : Ex2 (Unit) (Int)) (hx : loopO (G_internal_strconv_underscoreOK_L1 s_73) (saw_74, i_75, hex_76) = some x) (hh : True) (ho : True) : ∀ (f77 : Fr), (f77 0 = (.str s_73) ∧ f77 3 = (.int .i32 saw_74) ∧ f77 4 = (.int .i64 i_75) ∧ f77 5 = (.bool hex_76)) → (∀ (f132 : Fr), Ex2.a () = x → (f132 2 = (.bool false)) → κ.R f132 h78) → (∀ (f138 : Fr) (saw_137 : Int), Ex2.b saw_137 = x → (f138 3 = (.int .i32 saw_137)) → κ.B 0 f138 h78) → Lq E (.loop L_internal_strconv_underscoreOK_1) κ t f77 h78 := by
 revert saw_74 i_75 hex_76 x
 refine loop3' ?_
 intro saw_74 i_75 hex_76 r hb x hn f77  Y79  ex0 ex1
 dsimp only [G_internal_strconv_underscoreOK_L1] at hb
 refine loop_step L_internal_strconv_underscoreOK_1.eq_1 ?_
 have X := Y79
 refine Tw ?_
 refine Tw ?_
 refine bq_if hb rfl (fun c88 hb => ?_) (fun c88 hb => ?_)
 ·have X := And.intro c88 X
  refine Tw ?_
  refine bnd1 hb (fun j123 hj hb => ?_)
  refine wq_joinF (fun Z => ∀ (f118 : Fr) (hex_117 : Bool), Ex2.b hex_117 = j123 → (f118 0 = (.str s_73) ∧ f118 3 = (.int .i32 saw_74) ∧ f118 4 = (.int .i64 i_75) ∧ f118 5 = (.bool hex_117)) → Z f118) (fun Z hX91 => ?_) ?_
  ·have hr90 := hb
   clear hb
   have hb := hj
   clear hj
   refine wq_def J_internal_strconv_underscoreOK_4.eq_1 ?_
   refine Tw ?_
   refine Tw ?_
   refine vq_idxS hb (fun x92 hx92 hb => ?_)
   refine Tw ?_
   refine bq_if hb rfl (fun c93 hb => ?_) (fun c93 hb => ?_)
   ·have X := And.intro c93 X
    refine Tw ?_
    refine vq_idxS hb (fun x94 hx94 hb => ?_)
    refine Tw ?_
    refine bq_if hb rfl (fun c95 hb => ?_) (fun c95 hb => ?_)
    ·have hq := Option.some.inj hb
     subst hq
     try dsimp only at hr90
     have hb := hr90
     have hb := Option.some.inj hb
     subst hb
     have X := And.intro c95 X
     refine Tw ?_
     exact hn _  Cw ex0 ex1
    ·have X := And.intro c95 X
     refine Tw ?_
     refine bq_if hb rfl (fun c97 hb => ?_) (fun c97 hb => ?_)
     ·have X := And.intro c97 X
      refine Tw ?_
      refine vq_idxS hb (fun x98 hx98 hb => ?_)
      refine Tw ?_
      refine bnd1 hb (fun r99 h100 hb => ?_)
      refine pq_eq (G_internal_strconv_lower_ok h100) ?_
      refine Tw ?_
      refine bq_if hb rfl (fun c101 hb => ?_) (fun c101 hb => ?_)
      ·have X := And.intro c101 X
       refine Tw ?_
       refine vq_idxS hb (fun x102 hx102 hb => ?_)
       refine Tw ?_
       refine bnd1 hb (fun r103 h104 hb => ?_)
       refine pq_eq (G_internal_strconv_lower_ok h104) ?_
       refine Tw ?_
       refine bq_if hb rfl (fun c105 hb => ?_) (fun c105 hb => ?_)
       ·have hq := Option.some.inj hb
        subst hq
        try dsimp only at hr90
        have hb := hr90
        have hb := Option.some.inj hb
        subst hb
        have X := And.intro c105 X
        refine Tw ?_
        exact hn _  Cw ex0 ex1
       ·have hb := Option.some.inj hb
        subst hb
        have X := And.intro c105 X
        refine Tw ?_
        exact hX91 _ true rfl Cw
      ·have hb := Option.some.inj hb
       subst hb
       have X := And.intro c101 X
       refine Tw ?_
       exact hX91 _ true rfl Cw
     ·have hb := Option.some.inj hb
      subst hb
      have X := And.intro c97 X
      refine Tw ?_
      exact hX91 _ false rfl Cw
   ·have X := And.intro c93 X
    refine Tw ?_
    refine bq_if hb rfl (fun c107 hb => ?_) (fun c107 hb => ?_)
    ·have X := And.intro c107 X
     refine Tw ?_
     refine vq_idxS hb (fun x108 hx108 hb => ?_)
     refine Tw ?_
     refine bnd1 hb (fun r109 h110 hb => ?_)
     refine pq_eq (G_internal_strconv_lower_ok h110) ?_
     refine Tw ?_
     refine bq_if hb rfl (fun c111 hb => ?_) (fun c111 hb => ?_)
     ·have X := And.intro c111 X
      refine Tw ?_
      refine vq_idxS hb (fun x112 hx112 hb => ?_)
      refine Tw ?_
      refine bnd1 hb (fun r113 h114 hb => ?_)
      refine pq_eq (G_internal_strconv_lower_ok h114) ?_
      refine Tw ?_
      refine bq_if hb rfl (fun c115 hb => ?_) (fun c115 hb => ?_)
      ·have hq := Option.some.inj hb
       subst hq
       try dsimp only at hr90
       have hb := hr90
       have hb := Option.some.inj hb
       subst hb
       have X := And.intro c115 X
       refine Tw ?_
       exact hn _  Cw ex0 ex1
      ·have hb := Option.some.inj hb
       subst hb
       have X := And.intro c115 X
       refine Tw ?_
       exact hX91 _ true rfl Cw
     ·have hb := Option.some.inj hb
      subst hb
      have X := And.intro c111 X
      refine Tw ?_
      exact hX91 _ true rfl Cw
    ·have hb := Option.some.inj hb
     subst hb
     have X := And.intro c107 X
     refine Tw ?_
     exact hX91 _ false rfl Cw
  ·intro f118 hex_117 ej Y120
   subst ej
   try dsimp only at hb
   have X := And.intro Y120 X
   refine Tw ?_
   refine vq_idxS hb (fun x128 hx128 hb => ?_)
   refine Tw ?_
   refine bq_if hb rfl (fun c129 hb => ?_) (fun c129 hb => ?_)
   ·have X := And.intro c129 X
    refine Tw ?_
    refine bq_if hb rfl (fun c130 hb => ?_) (fun c130 hb => ?_)
    ·have hb := Option.some.inj hb
     subst hb
     have hn : _ = _ := hn
     subst hn
     have X := And.intro c130 X
     refine Tw ?_
     exact ex0 _ rfl Cw
    ·have hb := Option.some.inj hb
     subst hb
     have X := And.intro c130 X
     refine Tw ?_
     exact hn _  Cw ex0 ex1
   ·have X := And.intro c129 X
    refine Tw ?_
    refine bq_if hb rfl (fun c131 hb => ?_) (fun c131 hb => ?_)
    ·have hb := Option.some.inj hb
     subst hb
     have hn : _ = _ := hn
     subst hn
     have X := And.intro c131 X
     refine Tw ?_
     exact ex0 _ rfl Cw
    ·have hb := Option.some.inj hb
     subst hb
     have X := And.intro c131 X
     refine Tw ?_
     exact hn _  Cw ex0 ex1
 ·have hb := Option.some.inj hb
  subst hb
  have hn : _ = _ := hn
  subst hn
  have X := And.intro c88 X
  refine Tw ?_
  exact ex1 _ saw_74 rfl Cw
def G_internal_strconv_underscoreOK (s_2 : Bytes) : Option (Bool) :=
 (
  if (decide ((1 : Int) ≤ ((List.length s_2 : Nat) : Int))) then
   idx s_2 (0 : Int) >>= fun x8 =>
   if ((x8.toNat : Int) == (45 : Int)) then
    subF s_2 (1 : Int) >>= fun t10 =>
    some t10
   else
    idx s_2 (0 : Int) >>= fun x11 =>
    if ((x11.toNat : Int) == (43 : Int)) then
     subF s_2 (1 : Int) >>= fun t13 =>
     some t13
    else
     some s_2
  else
   some s_2
 ) >>= fun s_14 =>
 (
  (
   if (decide ((2 : Int) ≤ ((List.length s_14 : Nat) : Int))) then
    idx s_14 (0 : Int) >>= fun x31 =>
    if ((x31.toNat : Int) == (48 : Int)) then
     idx s_14 (1 : Int) >>= fun x33 =>
     G_internal_strconv_lower (x33.toNat : Int) >>= fun r34 =>
     if (r34 == (98 : Int)) then
      some true
     else
      idx s_14 (1 : Int) >>= fun x37 =>
      G_internal_strconv_lower (x37.toNat : Int) >>= fun r38 =>
      if (r38 == (111 : Int)) then
       some true
      else
       idx s_14 (1 : Int) >>= fun x41 =>
       G_internal_strconv_lower (x41.toNat : Int) >>= fun r42 =>
       some (r42 == (120 : Int))
    else
     some false
   else
    some false
  ) >>= fun v44 =>
  if v44 then
   idx s_14 (1 : Int) >>= fun x57 =>
   G_internal_strconv_lower (x57.toNat : Int) >>= fun r58 =>
   some ((48 : Int), (2 : Int), (r58 == (120 : Int)))
  else
   some ((94 : Int), (0 : Int), false)
 ) >>= fun (saw_60, i_61, hex_62) =>
 loopO (G_internal_strconv_underscoreOK_L1 s_14) (saw_60, i_61, hex_62) >>= fun q143 => match q143 with
  | .a _ =>
   some false
  | .b saw_137 =>
   some (!(saw_137 == (95 : Int)))
theorem G_internal_strconv_underscoreOK_ok {s_2 : Bytes} {r3 : Bool} (hx : G_internal_strconv_underscoreOK s_2 = some r3) : PureE E 109 [(.str s_2)] (fun v => v = (.bool r3)) := by
 refine pureE_ok fn_internal_strconv_underscoreOK rfl ?_
 have hb := hx
 dsimp only [G_internal_strconv_underscoreOK] at hb
 have X := True.intro
 refine Tw ?_
 refine bnd1 hb (fun j20 hj hb => ?_)
 refine wq_joinF (fun Z => ∀ (f15 : Fr) (s_14 : Bytes), s_14 = j20 → (f15 0 = (.str s_14) ∧ f15 3 = (.int .i32 (94 : Int)) ∧ f15 4 = (.int .i64 (0 : Int))) → Z f15) (fun Z hX6 => ?_) ?_
 ·have hr5 := hb
  clear hb
  have hb := hj
  clear hj
  refine wq_def J_internal_strconv_underscoreOK_1.eq_1 ?_
  refine Tw ?_
  refine Tw ?_
  refine bq_if hb rfl (fun c7 hb => ?_) (fun c7 hb => ?_)
  ·have X := And.intro c7 X
   refine Tw ?_
   refine vq_idxS hb (fun x8 hx8 hb => ?_)
   refine Tw ?_
   refine bq_if hb rfl (fun c9 hb => ?_) (fun c9 hb => ?_)
   ·have X := And.intro c9 X
    refine Tw ?_
    refine vq_subFs hb (fun t10 ht10 hb => ?_)
    have hb := Option.some.inj hb
    subst hb
    refine Tw ?_
    exact hX6 _ t10 rfl Cw
   ·have X := And.intro c9 X
    refine Tw ?_
    refine vq_idxS hb (fun x11 hx11 hb => ?_)
    refine Tw ?_
    refine bq_if hb rfl (fun c12 hb => ?_) (fun c12 hb => ?_)
    ·have X := And.intro c12 X
     refine Tw ?_
     refine vq_subFs hb (fun t13 ht13 hb => ?_)
     have hb := Option.some.inj hb
     subst hb
     refine Tw ?_
     exact hX6 _ t13 rfl Cw
    ·have hb := Option.some.inj hb
     subst hb
     have X := And.intro c12 X
     refine Tw ?_
     exact hX6 _ s_2 rfl Cw
  ·have hb := Option.some.inj hb
   subst hb
   have X := And.intro c7 X
   refine Tw ?_
   exact hX6 _ s_2 rfl Cw
 ·intro f15 s_14 ej Y17
  subst ej
  try dsimp only at hb
  have X := And.intro Y17 X
  refine Tw ?_
  refine bnd1 hb (fun j68 hj hb => ?_)
  refine wq_joinF (fun Z => ∀ (f63 : Fr) (saw_60 : Int) (i_61 : Int) (hex_62 : Bool), (saw_60, i_61, hex_62) = j68 → (f63 0 = (.str s_14) ∧ f63 3 = (.int .i32 saw_60) ∧ f63 4 = (.int .i64 i_61) ∧ f63 5 = (.bool hex_62)) → Z f63) (fun Z hX26 => ?_) ?_
  ·have hr25 := hb
   clear hb
   have hb := hj
   clear hj
   refine wq_def J_internal_strconv_underscoreOK_2.eq_1 ?_
   refine Tw ?_
   refine Tw ?_
   refine bnd1 hb (fun j50 hj hb => ?_)
   refine wq_joinF (fun Z => ∀ (f45 : Fr) (v44 : Bool), v44 = j50 → (f45 0 = (.str s_14) ∧ f45 3 = (.int .i32 (94 : Int)) ∧ f45 4 = (.int .i64 (0 : Int)) ∧ f45 5 = (.bool false) ∧ f45 46 = (.bool v44)) → Z f45) (fun Z hX29 => ?_) ?_
   ·have hr28 := hb
    clear hb
    have hb := hj
    clear hj
    refine wq_def J_internal_strconv_underscoreOK_3.eq_1 ?_
    refine Tw ?_
    refine Tw ?_
    refine bq_if hb rfl (fun c30 hb => ?_) (fun c30 hb => ?_)
    ·have X := And.intro c30 X
     refine Tw ?_
     refine vq_idxS hb (fun x31 hx31 hb => ?_)
     refine Tw ?_
     refine bq_if hb rfl (fun c32 hb => ?_) (fun c32 hb => ?_)
     ·have X := And.intro c32 X
      refine Tw ?_
      refine vq_idxS hb (fun x33 hx33 hb => ?_)
      refine Tw ?_
      refine bnd1 hb (fun r34 h35 hb => ?_)
      refine pq_eq (G_internal_strconv_lower_ok h35) ?_
      refine Tw ?_
      refine bq_if hb rfl (fun c36 hb => ?_) (fun c36 hb => ?_)
      ·have hb := Option.some.inj hb
       subst hb
       have X := And.intro c36 X
       refine Tw ?_
       exact hX29 _ true rfl Cw
      ·have X := And.intro c36 X
       refine Tw ?_
       refine vq_idxS hb (fun x37 hx37 hb => ?_)
       refine Tw ?_
       refine bnd1 hb (fun r38 h39 hb => ?_)
       refine pq_eq (G_internal_strconv_lower_ok h39) ?_
       refine Tw ?_
       refine bq_if hb rfl (fun c40 hb => ?_) (fun c40 hb => ?_)
       ·have hb := Option.some.inj hb
        subst hb
        have X := And.intro c40 X
        refine Tw ?_
        exact hX29 _ true rfl Cw
       ·have X := And.intro c40 X
        refine Tw ?_
        refine vq_idxS hb (fun x41 hx41 hb => ?_)
        refine Tw ?_
        refine bnd1 hb (fun r42 h43 hb => ?_)
        refine pq_eq (G_internal_strconv_lower_ok h43) ?_
        have hb := Option.some.inj hb
        subst hb
        refine Tw ?_
        exact hX29 _ (r42 == (120 : Int)) rfl Cw
     ·have hb := Option.some.inj hb
      subst hb
      have X := And.intro c32 X
      refine Tw ?_
      exact hX29 _ false rfl Cw
    ·have hb := Option.some.inj hb
     subst hb
     have X := And.intro c30 X
     refine Tw ?_
     exact hX29 _ false rfl Cw
   ·intro f45 v44 ej Y47
    subst ej
    try dsimp only at hb
    have X := And.intro Y47 X
    refine Tw ?_
    refine bq_if hb rfl (fun c56 hb => ?_) (fun c56 hb => ?_)
    ·have X := And.intro c56 X
     refine Tw ?_
     refine vq_idxS hb (fun x57 hx57 hb => ?_)
     refine Tw ?_
     refine bnd1 hb (fun r58 h59 hb => ?_)
     refine pq_eq (G_internal_strconv_lower_ok h59) ?_
     have hb := Option.some.inj hb
     subst hb
     refine Tw ?_
     exact hX26 _ (48 : Int) (2 : Int) (r58 == (120 : Int)) rfl Cw
    ·have hb := Option.some.inj hb
     subst hb
     have X := And.intro c56 X
     refine Tw ?_
     exact hX26 _ (94 : Int) (0 : Int) false rfl Cw
  ·intro f63 saw_60 i_61 hex_62 ej Y65
   subst ej
   try dsimp only at hb
   have X := And.intro Y65 X
   refine Tw ?_
   refine bnd1 hb (fun q143 h144 hb => ?_)
   refine G_internal_strconv_underscoreOK_L1_ok _ _ _ _ h144 trivial trivial _ Cw ?_ ?_
   ·intro f132 ex Y134
    subst ex
    try dsimp only at hb
    have hb := Option.some.inj hb
    subst hb
    have X := And.intro Y134 X
    refine Tw ?_
    exact endI rfl
   ·intro f138 saw_137 ex Y140
    subst ex
    try dsimp only at hb
    have hb := Option.some.inj hb
    subst hb
    have X := And.intro Y140 X
    refine Tw ?_
    exact endI rfl
def G_internal_strconv_ParseUint_L1 (base_146 : Int) (base0_147 : Bool) (cutoff_149 : Int) (maxVal_150 : Int) (v153 : List UInt8) (v158 : Int) : Bool × Int × Int → Option ((Bool × Int × Int) ⊕ (Ex2 (Int × Ifc) (Bool × Int))) := fun (underscores_151, n_152, v159) =>
 if (decide (v159 < v158)) then
  idx v153 v159 >>= fun x179 =>
  (
   (
    if ((x179.toNat : Int) == (95 : Int)) then
     some base0_147
    else
     some false
   ) >>= fun v188 =>
   if v188 then
    some (Ex2.a (Sum.inl (true, n_152, (IntKind.wrap .i64 (v159 + (1 : Int))))))
   else
    (
     if (decide ((48 : Int) ≤ (x179.toNat : Int))) then
      some (decide ((x179.toNat : Int) ≤ (57 : Int)))
     else
      some false
    ) >>= fun v213 =>
    if v213 then
     some (Ex2.b (IntKind.wrap .u8 ((x179.toNat : Int) - (48 : Int))))
    else
     (
      G_internal_strconv_lower (x179.toNat : Int) >>= fun r236 =>
      if (decide ((97 : Int) ≤ r236)) then
       G_internal_strconv_lower (x179.toNat : Int) >>= fun r239 =>
       some (decide (r239 ≤ (122 : Int)))
      else
       some false
     ) >>= fun v241 =>
     if v241 then
      G_internal_strconv_lower (x179.toNat : Int) >>= fun r261 =>
      some (Ex2.b (IntKind.wrap .u8 ((IntKind.wrap .u8 (r261 - (97 : Int))) + (10 : Int))))
     else
      some (Ex2.a (Sum.inr (Ex2.a ((0 : Int), (Ifc.int 145 .i64 (2 : Int))))))
  ) >>= fun j270 => match j270 with
   | .a q => some q
   | .b d_264 =>
    if (decide ((IntKind.wrap .u8 base_146) ≤ d_264)) then
     some (Sum.inr (Ex2.a ((0 : Int), (Ifc.int 145 .i64 (2 : Int)))))
    else
     if (decide (cutoff_149 ≤ n_152)) then
      some (Sum.inr (Ex2.a (maxVal_150, (Ifc.int 145 .i64 (1 : Int)))))
     else
      if (decide ((IntKind.wrap .u64 ((IntKind.wrap .u64 (n_152 * (IntKind.wrap .u64 base_146))) + (IntKind.wrap .u64 d_264))) < (IntKind.wrap .u64 (n_152 * (IntKind.wrap .u64 base_146))))) then
       some (Sum.inr (Ex2.a (maxVal_150, (Ifc.int 145 .i64 (1 : Int)))))
      else
       if (decide (maxVal_150 < (IntKind.wrap .u64 ((IntKind.wrap .u64 (n_152 * (IntKind.wrap .u64 base_146))) + (IntKind.wrap .u64 d_264))))) then
        some (Sum.inr (Ex2.a (maxVal_150, (Ifc.int 145 .i64 (1 : Int)))))
       else
        some (Sum.inl (underscores_151, (IntKind.wrap .u64 ((IntKind.wrap .u64 (n_152 * (IntKind.wrap .u64 base_146))) + (IntKind.wrap .u64 d_264))), (IntKind.wrap .i64 (v159 + (1 : Int)))))
 else
  some (Sum.inr (Ex2.b (underscores_151, n_152)))
theorem G_internal_strconv_ParseUint_L1_ok {κ : Kt} {t : Blk κ} {base_146 : Int} {base0_147 : Bool} {s0_148 : Bytes} {cutoff_149 : Int} {maxVal_150 : Int} {v153 : List UInt8} {v158 : Int} {o154 : Own} {e155 : Nat} {M156 : List (List PV)} {h161 : Heap} (underscores_151 : Bool) (n_152 : Int) (v159 : Int) (x : Ex2 (Int × Ifc) (Bool × Int)) (hx : loopO (G_internal_strconv_ParseUint_L1 base_146 base0_147 cutoff_149 maxVal_150 v153 v158) (underscores_151, n_152, v159) = some x) (hh : True) (ho : True) (s157 : SlR 1 R8 o154 e155 v153 M156) : ∀ (f160 : Fr), (f160 1 = (.int .i64 base_146) ∧ f160 8 = (.bool base0_147) ∧ f160 9 = (.str s0_148) ∧ f160 10 = (.int .u64 cutoff_149) ∧ f160 11 = (.int .u64 maxVal_150) ∧ f160 12 = (.bool underscores_151) ∧ f160 13 = (.int .u64 n_152) ∧ f160 99 = (.slice o154 e155 M156) ∧ f160 100 = (.int .i64 v158) ∧ f160 101 = (.int .i64 v159)) → (∀ (f288 : Fr) (v286 : Int) (v287 : Ifc), Ex2.a (v286, v287) = x → (f288 6 = (.int .u64 v286) ∧ f288 7 = (Ifc.pv v287)) → κ.R f288 h161) → (∀ (f295 : Fr) (underscores_293 : Bool) (n_294 : Int), Ex2.b (underscores_293, n_294) = x → (f295 9 = (.str s0_148) ∧ f295 12 = (.bool underscores_293) ∧ f295 13 = (.int .u64 n_294)) → κ.B 3 f295 h161) → Lq E (.loop L_internal_strconv_ParseUint_1) κ t f160 h161 := by
 revert underscores_151 n_152 v159 x
 refine loop3' ?_
 intro underscores_151 n_152 v159 r hb x hn f160  Y162  ex0 ex1
 dsimp only [G_internal_strconv_ParseUint_L1] at hb
 refine loop_step L_internal_strconv_ParseUint_1.eq_1 ?_
 have X := And.intro Y162 (And.intro hh (s157.len))
 refine Tw ?_
 refine Tw ?_
 refine bq_if hb rfl (fun c178 hb => ?_) (fun c178 hb => ?_)
 ·have X := And.intro c178 X
  refine Tw ?_
  refine vq_iaddr s157 hb (fun x179 cs180 hx179 hb hcs180 => ?_)
  cases (show cs180 = [(.int .u8 (x179.toNat : Int))] from hcs180)
  refine Tw ?_
  refine bnd1 hb (fun j270 hj hb => ?_)
  refine wq_joinF (fun Z => ∀ (f265 : Fr) (d_264 : Int), Ex2.b d_264 = j270 → (f265 1 = (.int .i64 base_146) ∧ f265 8 = (.bool base0_147) ∧ f265 9 = (.str s0_148) ∧ f265 10 = (.int .u64 cutoff_149) ∧ f265 11 = (.int .u64 maxVal_150) ∧ f265 12 = (.bool underscores_151) ∧ f265 13 = (.int .u64 n_152) ∧ f265 16 = (.int .u8 d_264) ∧ f265 99 = (.slice o154 e155 M156) ∧ f265 100 = (.int .i64 v158) ∧ f265 101 = (.int .i64 v159)) → Z f265) (fun Z hX183 => ?_) ?_
  ·have hr182 := hb
   clear hb
   have hb := hj
   clear hj
   refine wq_def J_internal_strconv_ParseUint_7.eq_1 ?_
   refine Tw ?_
   refine Tw ?_
   refine bnd1 hb (fun j194 hj hb => ?_)
   refine wq_joinF (fun Z => ∀ (f189 : Fr) (v188 : Bool), v188 = j194 → (f189 1 = (.int .i64 base_146) ∧ f189 8 = (.bool base0_147) ∧ f189 9 = (.str s0_148) ∧ f189 10 = (.int .u64 cutoff_149) ∧ f189 11 = (.int .u64 maxVal_150) ∧ f189 12 = (.bool underscores_151) ∧ f189 13 = (.int .u64 n_152) ∧ f189 15 = (.int .u8 (x179.toNat : Int)) ∧ f189 99 = (.slice o154 e155 M156) ∧ f189 100 = (.int .i64 v158) ∧ f189 101 = (.int .i64 v159) ∧ f189 106 = (.bool v188)) → Z f189) (fun Z hX186 => ?_) ?_
   ·have hr185 := hb
    clear hb
    have hb := hj
    clear hj
    refine wq_def J_internal_strconv_ParseUint_8.eq_1 ?_
    refine Tw ?_
    refine Tw ?_
    refine bq_if hb rfl (fun c187 hb => ?_) (fun c187 hb => ?_)
    ·have hb := Option.some.inj hb
     subst hb
     have X := And.intro c187 X
     refine Tw ?_
     exact hX186 _ base0_147 rfl Cw
    ·have hb := Option.some.inj hb
     subst hb
     have X := And.intro c187 X
     refine Tw ?_
     exact hX186 _ false rfl Cw
   ·intro f189 v188 ej Y191
    subst ej
    try dsimp only at hb
    have X := And.intro Y191 X
    refine Tw ?_
    refine bq_if hb rfl (fun c207 hb => ?_) (fun c207 hb => ?_)
    ·have hq := Option.some.inj hb
     subst hq
     try dsimp only at hr182
     have hb := hr182
     have hb := Option.some.inj hb
     subst hb
     have X := And.intro c207 X
     refine Tw ?_
     exact hn _  Cw ex0 ex1
    ·have X := And.intro c207 X
     refine Tw ?_
     refine bnd1 hb (fun j219 hj hb => ?_)
     refine wq_joinF (fun Z => ∀ (f214 : Fr) (v213 : Bool), v213 = j219 → (f214 1 = (.int .i64 base_146) ∧ f214 8 = (.bool base0_147) ∧ f214 9 = (.str s0_148) ∧ f214 10 = (.int .u64 cutoff_149) ∧ f214 11 = (.int .u64 maxVal_150) ∧ f214 12 = (.bool underscores_151) ∧ f214 13 = (.int .u64 n_152) ∧ f214 15 = (.int .u8 (x179.toNat : Int)) ∧ f214 99 = (.slice o154 e155 M156) ∧ f214 100 = (.int .i64 v158) ∧ f214 101 = (.int .i64 v159) ∧ f214 112 = (.bool v213)) → Z f214) (fun Z hX211 => ?_) ?_
     ·have hr210 := hb
      clear hb
      have hb := hj
      clear hj
      refine wq_def J_internal_strconv_ParseUint_9.eq_1 ?_
      refine Tw ?_
      refine Tw ?_
      refine bq_if hb rfl (fun c212 hb => ?_) (fun c212 hb => ?_)
      ·have hb := Option.some.inj hb
       subst hb
       have X := And.intro c212 X
       refine Tw ?_
       exact hX211 _ (decide ((x179.toNat : Int) ≤ (57 : Int))) rfl Cw
      ·have hb := Option.some.inj hb
       subst hb
       have X := And.intro c212 X
       refine Tw ?_
       exact hX211 _ false rfl Cw
     ·intro f214 v213 ej Y216
      subst ej
      try dsimp only at hb
      have X := And.intro Y216 X
      refine Tw ?_
      refine bq_if hb rfl (fun c232 hb => ?_) (fun c232 hb => ?_)
      ·have hb := Option.some.inj hb
       subst hb
       have X := And.intro c232 X
       refine Tw ?_
       exact hX183 _ (IntKind.wrap .u8 ((x179.toNat : Int) - (48 : Int))) rfl Cw
      ·have X := And.intro c232 X
       refine Tw ?_
       refine bnd1 hb (fun j247 hj hb => ?_)
       refine wq_joinF (fun Z => ∀ (f242 : Fr) (v241 : Bool), v241 = j247 → (f242 1 = (.int .i64 base_146) ∧ f242 8 = (.bool base0_147) ∧ f242 9 = (.str s0_148) ∧ f242 10 = (.int .u64 cutoff_149) ∧ f242 11 = (.int .u64 maxVal_150) ∧ f242 12 = (.bool underscores_151) ∧ f242 13 = (.int .u64 n_152) ∧ f242 15 = (.int .u8 (x179.toNat : Int)) ∧ f242 99 = (.slice o154 e155 M156) ∧ f242 100 = (.int .i64 v158) ∧ f242 101 = (.int .i64 v159) ∧ f242 121 = (.bool v241)) → Z f242) (fun Z hX235 => ?_) ?_
       ·have hr234 := hb
        clear hb
        have hb := hj
        clear hj
        refine wq_def J_internal_strconv_ParseUint_10.eq_1 ?_
        refine Tw ?_
        refine Tw ?_
        refine bnd1 hb (fun r236 h237 hb => ?_)
        refine pq_eq (G_internal_strconv_lower_ok h237) ?_
        refine Tw ?_
        refine bq_if hb rfl (fun c238 hb => ?_) (fun c238 hb => ?_)
        ·have X := And.intro c238 X
         refine Tw ?_
         refine bnd1 hb (fun r239 h240 hb => ?_)
         refine pq_eq (G_internal_strconv_lower_ok h240) ?_
         have hb := Option.some.inj hb
         subst hb
         refine Tw ?_
         exact hX235 _ (decide (r239 ≤ (122 : Int))) rfl Cw
        ·have hb := Option.some.inj hb
         subst hb
         have X := And.intro c238 X
         refine Tw ?_
         exact hX235 _ false rfl Cw
       ·intro f242 v241 ej Y244
        subst ej
        try dsimp only at hb
        have X := And.intro Y244 X
        refine Tw ?_
        refine bq_if hb rfl (fun c260 hb => ?_) (fun c260 hb => ?_)
        ·have X := And.intro c260 X
         refine Tw ?_
         refine bnd1 hb (fun r261 h262 hb => ?_)
         refine pq_eq (G_internal_strconv_lower_ok h262) ?_
         have hb := Option.some.inj hb
         subst hb
         refine Tw ?_
         exact hX183 _ (IntKind.wrap .u8 ((IntKind.wrap .u8 (r261 - (97 : Int))) + (10 : Int))) rfl Cw
        ·have hq := Option.some.inj hb
         subst hq
         try dsimp only at hr182
         have hb := hr182
         have hb := Option.some.inj hb
         subst hb
         have hn : _ = _ := hn
         subst hn
         have X := And.intro c260 X
         refine Tw ?_
         exact ex0 _ (0 : Int) (Ifc.int 145 .i64 (2 : Int)) rfl Cw
  ·intro f265 d_264 ej Y267
   subst ej
   try dsimp only at hb
   have X := And.intro Y267 X
   refine Tw ?_
   refine bq_if hb rfl (fun c282 hb => ?_) (fun c282 hb => ?_)
   ·have hb := Option.some.inj hb
    subst hb
    have hn : _ = _ := hn
    subst hn
    have X := And.intro c282 X
    refine Tw ?_
    exact ex0 _ (0 : Int) (Ifc.int 145 .i64 (2 : Int)) rfl Cw
   ·have X := And.intro c282 X
    refine Tw ?_
    refine bq_if hb rfl (fun c283 hb => ?_) (fun c283 hb => ?_)
    ·have hb := Option.some.inj hb
     subst hb
     have hn : _ = _ := hn
     subst hn
     have X := And.intro c283 X
     refine Tw ?_
     exact ex0 _ maxVal_150 (Ifc.int 145 .i64 (1 : Int)) rfl Cw
    ·have X := And.intro c283 X
     refine Tw ?_
     refine bq_if hb rfl (fun c284 hb => ?_) (fun c284 hb => ?_)
     ·have hb := Option.some.inj hb
      subst hb
      have hn : _ = _ := hn
      subst hn
      have X := And.intro c284 X
      refine Tw ?_
      exact ex0 _ maxVal_150 (Ifc.int 145 .i64 (1 : Int)) rfl Cw
     ·have X := And.intro c284 X
      refine Tw ?_
      refine bq_if hb rfl (fun c285 hb => ?_) (fun c285 hb => ?_)
      ·have hb := Option.some.inj hb
       subst hb
       have hn : _ = _ := hn
       subst hn
       have X := And.intro c285 X
       refine Tw ?_
       exact ex0 _ maxVal_150 (Ifc.int 145 .i64 (1 : Int)) rfl Cw
      ·have hb := Option.some.inj hb
       subst hb
       have X := And.intro c285 X
       refine Tw ?_
       exact hn _  Cw ex0 ex1
 ·have hb := Option.some.inj hb
  subst hb
  have hn : _ = _ := hn
  subst hn
  have X := And.intro c178 X
  refine Tw ?_
  exact ex1 _ underscores_151 n_152 rfl Cw
def G_internal_strconv_ParseUint (s_2 : Bytes) (base_3 : Int) (bitSize_4 : Int) : Option (Int × Ifc) :=
 if (s_2 == ([] : Bytes)) then
  some ((0 : Int), (Ifc.int 145 .i64 (2 : Int)))
 else
  (
   (
    if (decide ((2 : Int) ≤ base_3)) then
     some (decide (base_3 ≤ (36 : Int)))
    else
     some false
   ) >>= fun v15 =>
   if v15 then
    some (Ex2.b (s_2, base_3, (base_3 == (0 : Int))))
   else
    if (base_3 == (0 : Int)) then
     idx s_2 (0 : Int) >>= fun x30 =>
     if ((x30.toNat : Int) == (48 : Int)) then
      (
       if (decide ((3 : Int) ≤ ((List.length s_2 : Nat) : Int))) then
        idx s_2 (1 : Int) >>= fun x36 =>
        G_internal_strconv_lower (x36.toNat : Int) >>= fun r37 =>
        some (r37 == (98 : Int))
       else
        some false
      ) >>= fun v39 =>
      if v39 then
       subF s_2 (2 : Int) >>= fun t52 =>
       some (Ex2.b (t52, (2 : Int), true))
      else
       (
        if (decide ((3 : Int) ≤ ((List.length s_2 : Nat) : Int))) then
         idx s_2 (1 : Int) >>= fun x57 =>
         G_internal_strconv_lower (x57.toNat : Int) >>= fun r58 =>
         some (r58 == (111 : Int))
        else
         some false
       ) >>= fun v60 =>
       if v60 then
        subF s_2 (2 : Int) >>= fun t73 =>
        some (Ex2.b (t73, (8 : Int), true))
       else
        if (decide ((3 : Int) ≤ ((List.length s_2 : Nat) : Int))) then
         idx s_2 (1 : Int) >>= fun x75 =>
         G_internal_strconv_lower (x75.toNat : Int) >>= fun r76 =>
         if (r76 == (120 : Int)) then
          subF s_2 (2 : Int) >>= fun t79 =>
          some (Ex2.b (t79, (16 : Int), true))
         else
          subF s_2 (1 : Int) >>= fun t80 =>
          some (Ex2.b (t80, (8 : Int), true))
        else
         subF s_2 (1 : Int) >>= fun t81 =>
         some (Ex2.b (t81, (8 : Int), true))
     else
      some (Ex2.b (s_2, (10 : Int), true))
    else
     some (Ex2.a ((0 : Int), (Ifc.int 145 .i64 (3 : Int))))
  ) >>= fun j91 => match j91 with
   | .a q => some q
   | .b (s_83, base_84, base0_85) =>
    (
     if (bitSize_4 == (0 : Int)) then
      some (Ex2.b (64 : Int))
     else
      if (decide (bitSize_4 < (0 : Int))) then
       some (Ex2.a ((0 : Int), (Ifc.int 145 .i64 (4 : Int))))
      else
       if (decide ((64 : Int) < bitSize_4)) then
        some (Ex2.a ((0 : Int), (Ifc.int 145 .i64 (4 : Int))))
       else
        some (Ex2.b bitSize_4)
    ) >>= fun j111 => match j111 with
     | .a q => some q
     | .b bitSize_105 =>
      (
       if (base_84 == (10 : Int)) then
        some (1844674407370955162 : Int)
       else
        if (base_84 == (16 : Int)) then
         some (1152921504606846976 : Int)
        else
         quo .u64 (18446744073709551615 : Int) (IntKind.wrap .u64 base_84) >>= fun i122 =>
         some (IntKind.wrap .u64 (i122 + (1 : Int)))
      ) >>= fun cutoff_123 =>
      shl .u64 (1 : Int) (IntKind.wrap .u64 bitSize_105) >>= fun i136 =>
      loopO (G_internal_strconv_ParseUint_L1 base_84 base0_85 cutoff_123 (IntKind.wrap .u64 (i136 - (1 : Int))) s_83 ((List.length s_83 : Nat) : Int)) (false, (0 : Int), (0 : Int)) >>= fun q300 => match q300 with
       | .a (v286, v287) =>
        some (v286, v287)
       | .b (underscores_293, n_294) =>
        if underscores_293 then
         G_internal_strconv_underscoreOK s_2 >>= fun r308 =>
         if (!r308) then
          some ((0 : Int), (Ifc.int 145 .i64 (2 : Int)))
         else
          some (n_294, Ifc.nil)
        else
         some (n_294, Ifc.nil)
theorem G_internal_strconv_ParseUint_ok {s_2 : Bytes} {base_3 : Int} {bitSize_4 : Int} {r5 : Int} {r6 : Ifc} (hx : G_internal_strconv_ParseUint s_2 base_3 bitSize_4 = some (r5, r6)) : PureE E 71 [(.str s_2), (.int .i64 base_3), (.int .i64 bitSize_4)] (fun v => v = (.tuple [(.int .u64 r5), (Ifc.pv r6)])) := by
 refine pureE_ok fn_internal_strconv_ParseUint rfl ?_
 have hb := hx
 dsimp only [G_internal_strconv_ParseUint] at hb
 have X := True.intro
 refine Tw ?_
 refine bq_if hb rfl (fun c7 hb => ?_) (fun c7 hb => ?_)
 ·have hb := Option.some.inj hb
  obtain ⟨e0, e1⟩ := Prod.mk.inj hb
  subst e0
  subst e1
  have X := And.intro c7 X
  refine Tw ?_
  exact endI rfl
 ·have X := And.intro c7 X
  refine Tw ?_
  refine bnd1 hb (fun j91 hj hb => ?_)
  refine wq_joinF (fun Z => ∀ (f86 : Fr) (s_83 : Bytes) (base_84 : Int) (base0_85 : Bool), Ex2.b (s_83, base_84, base0_85) = j91 → (f86 0 = (.str s_83) ∧ f86 1 = (.int .i64 base_84) ∧ f86 2 = (.int .i64 bitSize_4) ∧ f86 8 = (.bool base0_85) ∧ f86 9 = (.str s_2)) → Z f86) (fun Z hX10 => ?_) ?_
  ·have hr9 := hb
   clear hb
   have hb := hj
   clear hj
   refine wq_def J_internal_strconv_ParseUint_1.eq_1 ?_
   refine Tw ?_
   refine Tw ?_
   refine bnd1 hb (fun j21 hj hb => ?_)
   refine wq_joinF (fun Z => ∀ (f16 : Fr) (v15 : Bool), v15 = j21 → (f16 0 = (.str s_2) ∧ f16 1 = (.int .i64 base_3) ∧ f16 2 = (.int .i64 bitSize_4) ∧ f16 8 = (.bool (base_3 == (0 : Int))) ∧ f16 9 = (.str s_2) ∧ f16 25 = (.bool v15)) → Z f16) (fun Z hX13 => ?_) ?_
   ·have hr12 := hb
    clear hb
    have hb := hj
    clear hj
    refine wq_def J_internal_strconv_ParseUint_2.eq_1 ?_
    refine Tw ?_
    refine Tw ?_
    refine bq_if hb rfl (fun c14 hb => ?_) (fun c14 hb => ?_)
    ·have hb := Option.some.inj hb
     subst hb
     have X := And.intro c14 X
     refine Tw ?_
     exact hX13 _ (decide (base_3 ≤ (36 : Int))) rfl Cw
    ·have hb := Option.some.inj hb
     subst hb
     have X := And.intro c14 X
     refine Tw ?_
     exact hX13 _ false rfl Cw
   ·intro f16 v15 ej Y18
    subst ej
    try dsimp only at hb
    have X := And.intro Y18 X
    refine Tw ?_
    refine bq_if hb rfl (fun c28 hb => ?_) (fun c28 hb => ?_)
    ·have hb := Option.some.inj hb
     subst hb
     have X := And.intro c28 X
     refine Tw ?_
     exact hX10 _ s_2 base_3 (base_3 == (0 : Int)) rfl Cw
    ·have X := And.intro c28 X
     refine Tw ?_
     refine bq_if hb rfl (fun c29 hb => ?_) (fun c29 hb => ?_)
     ·have X := And.intro c29 X
      refine Tw ?_
      refine vq_idxS hb (fun x30 hx30 hb => ?_)
      refine Tw ?_
      refine bq_if hb rfl (fun c31 hb => ?_) (fun c31 hb => ?_)
      ·have X := And.intro c31 X
       refine Tw ?_
       refine bnd1 hb (fun j45 hj hb => ?_)
       refine wq_joinF (fun Z => ∀ (f40 : Fr) (v39 : Bool), v39 = j45 → (f40 0 = (.str s_2) ∧ f40 2 = (.int .i64 bitSize_4) ∧ f40 8 = (.bool true) ∧ f40 9 = (.str s_2) ∧ f40 40 = (.bool v39)) → Z f40) (fun Z hX34 => ?_) ?_
       ·have hr33 := hb
        clear hb
        have hb := hj
        clear hj
        refine wq_def J_internal_strconv_ParseUint_3.eq_1 ?_
        refine Tw ?_
        refine Tw ?_
        refine bq_if hb rfl (fun c35 hb => ?_) (fun c35 hb => ?_)
        ·have X := And.intro c35 X
         refine Tw ?_
         refine vq_idxS hb (fun x36 hx36 hb => ?_)
         refine Tw ?_
         refine bnd1 hb (fun r37 h38 hb => ?_)
         refine pq_eq (G_internal_strconv_lower_ok h38) ?_
         have hb := Option.some.inj hb
         subst hb
         refine Tw ?_
         exact hX34 _ (r37 == (98 : Int)) rfl Cw
        ·have hb := Option.some.inj hb
         subst hb
         have X := And.intro c35 X
         refine Tw ?_
         exact hX34 _ false rfl Cw
       ·intro f40 v39 ej Y42
        subst ej
        try dsimp only at hb
        have X := And.intro Y42 X
        refine Tw ?_
        refine bq_if hb rfl (fun c51 hb => ?_) (fun c51 hb => ?_)
        ·have X := And.intro c51 X
         refine Tw ?_
         refine vq_subFs hb (fun t52 ht52 hb => ?_)
         have hb := Option.some.inj hb
         subst hb
         refine Tw ?_
         exact hX10 _ t52 (2 : Int) true rfl Cw
        ·have X := And.intro c51 X
         refine Tw ?_
         refine bnd1 hb (fun j66 hj hb => ?_)
         refine wq_joinF (fun Z => ∀ (f61 : Fr) (v60 : Bool), v60 = j66 → (f61 0 = (.str s_2) ∧ f61 2 = (.int .i64 bitSize_4) ∧ f61 8 = (.bool true) ∧ f61 9 = (.str s_2) ∧ f61 52 = (.bool v60)) → Z f61) (fun Z hX55 => ?_) ?_
         ·have hr54 := hb
          clear hb
          have hb := hj
          clear hj
          refine wq_def J_internal_strconv_ParseUint_4.eq_1 ?_
          refine Tw ?_
          refine Tw ?_
          refine bq_if hb rfl (fun c56 hb => ?_) (fun c56 hb => ?_)
          ·have X := And.intro c56 X
           refine Tw ?_
           refine vq_idxS hb (fun x57 hx57 hb => ?_)
           refine Tw ?_
           refine bnd1 hb (fun r58 h59 hb => ?_)
           refine pq_eq (G_internal_strconv_lower_ok h59) ?_
           have hb := Option.some.inj hb
           subst hb
           refine Tw ?_
           exact hX55 _ (r58 == (111 : Int)) rfl Cw
          ·have hb := Option.some.inj hb
           subst hb
           have X := And.intro c56 X
           refine Tw ?_
           exact hX55 _ false rfl Cw
         ·intro f61 v60 ej Y63
          subst ej
          try dsimp only at hb
          have X := And.intro Y63 X
          refine Tw ?_
          refine bq_if hb rfl (fun c72 hb => ?_) (fun c72 hb => ?_)
          ·have X := And.intro c72 X
           refine Tw ?_
           refine vq_subFs hb (fun t73 ht73 hb => ?_)
           have hb := Option.some.inj hb
           subst hb
           refine Tw ?_
           exact hX10 _ t73 (8 : Int) true rfl Cw
          ·have X := And.intro c72 X
           refine Tw ?_
           refine bq_if hb rfl (fun c74 hb => ?_) (fun c74 hb => ?_)
           ·have X := And.intro c74 X
            refine Tw ?_
            refine vq_idxS hb (fun x75 hx75 hb => ?_)
            refine Tw ?_
            refine bnd1 hb (fun r76 h77 hb => ?_)
            refine pq_eq (G_internal_strconv_lower_ok h77) ?_
            refine Tw ?_
            refine bq_if hb rfl (fun c78 hb => ?_) (fun c78 hb => ?_)
            ·have X := And.intro c78 X
             refine Tw ?_
             refine vq_subFs hb (fun t79 ht79 hb => ?_)
             have hb := Option.some.inj hb
             subst hb
             refine Tw ?_
             exact hX10 _ t79 (16 : Int) true rfl Cw
            ·have X := And.intro c78 X
             refine Tw ?_
             refine vq_subFs hb (fun t80 ht80 hb => ?_)
             have hb := Option.some.inj hb
             subst hb
             refine Tw ?_
             exact hX10 _ t80 (8 : Int) true rfl Cw
           ·have X := And.intro c74 X
            refine Tw ?_
            refine vq_subFs hb (fun t81 ht81 hb => ?_)
            have hb := Option.some.inj hb
            subst hb
            refine Tw ?_
            exact hX10 _ t81 (8 : Int) true rfl Cw
      ·have hb := Option.some.inj hb
       subst hb
       have X := And.intro c31 X
       refine Tw ?_
       exact hX10 _ s_2 (10 : Int) true rfl Cw
     ·have hq := Option.some.inj hb
      subst hq
      try dsimp only at hr9
      have hb := hr9
      have hb := Option.some.inj hb
      obtain ⟨e0, e1⟩ := Prod.mk.inj hb
      subst e0
      subst e1
      have X := And.intro c29 X
      refine Tw ?_
      exact endI rfl
  ·intro f86 s_83 base_84 base0_85 ej Y88
   subst ej
   try dsimp only at hb
   have X := And.intro Y88 X
   refine Tw ?_
   refine bnd1 hb (fun j111 hj hb => ?_)
   refine wq_joinF (fun Z => ∀ (f106 : Fr) (bitSize_105 : Int), Ex2.b bitSize_105 = j111 → (f106 0 = (.str s_83) ∧ f106 1 = (.int .i64 base_84) ∧ f106 2 = (.int .i64 bitSize_105) ∧ f106 8 = (.bool base0_85) ∧ f106 9 = (.str s_2)) → Z f106) (fun Z hX99 => ?_) ?_
   ·have hr98 := hb
    clear hb
    have hb := hj
    clear hj
    refine wq_def J_internal_strconv_ParseUint_5.eq_1 ?_
    refine Tw ?_
    refine Tw ?_
    refine bq_if hb rfl (fun c100 hb => ?_) (fun c100 hb => ?_)
    ·have hb := Option.some.inj hb
     subst hb
     have X := And.intro c100 X
     refine Tw ?_
     exact hX99 _ (64 : Int) rfl Cw
    ·have X := And.intro c100 X
     refine Tw ?_
     refine bq_if hb rfl (fun c101 hb => ?_) (fun c101 hb => ?_)
     ·have hq := Option.some.inj hb
      subst hq
      try dsimp only at hr98
      have hb := hr98
      have hb := Option.some.inj hb
      obtain ⟨e0, e1⟩ := Prod.mk.inj hb
      subst e0
      subst e1
      have X := And.intro c101 X
      refine Tw ?_
      exact endI rfl
     ·have X := And.intro c101 X
      refine Tw ?_
      refine bq_if hb rfl (fun c103 hb => ?_) (fun c103 hb => ?_)
      ·have hq := Option.some.inj hb
       subst hq
       try dsimp only at hr98
       have hb := hr98
       have hb := Option.some.inj hb
       obtain ⟨e0, e1⟩ := Prod.mk.inj hb
       subst e0
       subst e1
       have X := And.intro c103 X
       refine Tw ?_
       exact endI rfl
      ·have hb := Option.some.inj hb
       subst hb
       have X := And.intro c103 X
       refine Tw ?_
       exact hX99 _ bitSize_4 rfl Cw
   ·intro f106 bitSize_105 ej Y108
    subst ej
    try dsimp only at hb
    have X := And.intro Y108 X
    refine Tw ?_
    refine bnd1 hb (fun j129 hj hb => ?_)
    refine wq_joinF (fun Z => ∀ (f124 : Fr) (cutoff_123 : Int), cutoff_123 = j129 → (f124 0 = (.str s_83) ∧ f124 1 = (.int .i64 base_84) ∧ f124 2 = (.int .i64 bitSize_105) ∧ f124 8 = (.bool base0_85) ∧ f124 9 = (.str s_2) ∧ f124 10 = (.int .u64 cutoff_123)) → Z f124) (fun Z hX119 => ?_) ?_
    ·have hr118 := hb
     clear hb
     have hb := hj
     clear hj
     refine wq_def J_internal_strconv_ParseUint_6.eq_1 ?_
     refine Tw ?_
     refine Tw ?_
     refine bq_if hb rfl (fun c120 hb => ?_) (fun c120 hb => ?_)
     ·have hb := Option.some.inj hb
      subst hb
      have X := And.intro c120 X
      refine Tw ?_
      exact hX119 _ (1844674407370955162 : Int) rfl Cw
     ·have X := And.intro c120 X
      refine Tw ?_
      refine bq_if hb rfl (fun c121 hb => ?_) (fun c121 hb => ?_)
      ·have hb := Option.some.inj hb
       subst hb
       have X := And.intro c121 X
       refine Tw ?_
       exact hX119 _ (1152921504606846976 : Int) rfl Cw
      ·have X := And.intro c121 X
       refine Tw ?_
       refine vq_quo hb (fun i122 hi122 hb => ?_)
       have hb := Option.some.inj hb
       subst hb
       refine Tw ?_
       exact hX119 _ (IntKind.wrap .u64 (i122 + (1 : Int))) rfl Cw
    ·intro f124 cutoff_123 ej Y126
     subst ej
     try dsimp only at hb
     have X := And.intro Y126 X
     refine Tw ?_
     refine vq_shl hb (fun i136 hi136 hb => ?_)
     refine Tw ?_
     refine vq_s2b (fun o138 M139 h140 s141 O142 F143 => ?_)
     have q144 := F143.n
     try simp only [HN] at q144
     have X := And.intro F143.box (And.intro F143.loop (And.intro F143.bty (And.intro O142 (And.intro s141.len X))))
     refine Tw ?_
     refine bnd1 hb (fun q300 h301 hb => ?_)
     refine G_internal_strconv_ParseUint_L1_ok (s0_148 := s_2) (o154 := o138) (e155 := 1) (M156 := M139) _ _ _ _ h301 trivial trivial s141 _ Cw ?_ ?_
     ·intro f288 v286 v287 ex Y290
      subst ex
      try dsimp only at hb
      have hb := Option.some.inj hb
      obtain ⟨e0, e1⟩ := Prod.mk.inj hb
      subst e0
      subst e1
      have X := And.intro Y290 X
      refine Tw ?_
      exact endI rfl
     ·intro f295 underscores_293 n_294 ex Y297
      subst ex
      try dsimp only at hb
      have X := And.intro Y297 X
      refine Tw ?_
      refine bq_if hb rfl (fun c307 hb => ?_) (fun c307 hb => ?_)
      ·have X := And.intro c307 X
       refine Tw ?_
       refine bnd1 hb (fun r308 h309 hb => ?_)
       refine pq_eq (G_internal_strconv_underscoreOK_ok h309) ?_
       refine Tw ?_
       refine bq_if hb rfl (fun c310 hb => ?_) (fun c310 hb => ?_)
       ·have hb := Option.some.inj hb
        obtain ⟨e0, e1⟩ := Prod.mk.inj hb
        subst e0
        subst e1
        have X := And.intro c310 X
        refine Tw ?_
        exact endI rfl
       ·have hb := Option.some.inj hb
        obtain ⟨e0, e1⟩ := Prod.mk.inj hb
        subst e0
        subst e1
        have X := And.intro c310 X
        refine Tw ?_
        exact endI rfl
      ·have hb := Option.some.inj hb
       obtain ⟨e0, e1⟩ := Prod.mk.inj hb
       subst e0
       subst e1
       have X := And.intro c307 X
       refine Tw ?_
       exact endI rfl
def G_strconv_toError (fn_2 : Bytes) (s_3 : Bytes) (base_4 : Int) (bitSize_5 : Int) (err_6 : Ifc) : Option (Ifc) :=
 eqI [145] err_6 (Ifc.int 145 .i64 (2 : Int)) >>= fun q8 =>
 if q8 then
  oClone s_3 >>= fun r10 =>
  some Ifc.opq
 else
  eqI [145] err_6 (Ifc.int 145 .i64 (1 : Int)) >>= fun q14 =>
  if q14 then
   oClone s_3 >>= fun r16 =>
   some Ifc.opq
  else
   eqI [145] err_6 (Ifc.int 145 .i64 (3 : Int)) >>= fun q20 =>
   if q20 then
    none
   else
    eqI [145] err_6 (Ifc.int 145 .i64 (4 : Int)) >>= fun q22 =>
    if q22 then
     none
    else
     some err_6
theorem G_strconv_toError_ok {fn_2 : Bytes} {s_3 : Bytes} {base_4 : Int} {bitSize_5 : Int} {err_6 : Ifc} {r7 : Ifc} (hx : G_strconv_toError fn_2 s_3 base_4 bitSize_5 err_6 = some r7) : PureE E 72 [(.str fn_2), (.str s_3), (.int .i64 base_4), (.int .i64 bitSize_5), (Ifc.pv err_6)] (fun v => v = (Ifc.pv r7)) := by
 refine pureE_ok fn_strconv_toError rfl ?_
 have hb := hx
 dsimp only [G_strconv_toError] at hb
 have X := True.intro
 refine Tw ?_
 refine vq_eqi hb (fun q8 hq8 hb => ?_)
 refine Tw ?_
 refine bq_if hb rfl (fun c9 hb => ?_) (fun c9 hb => ?_)
 ·have X := And.intro c9 X
  refine Tw ?_
  refine fq_in fn_strconv_syntaxError (by rfl) ?_
  refine Tw ?_
  refine bnd1 hb (fun r10 h11 hb => ?_)
  refine hq_Clone h11 ?_
  refine Tw ?_
  have hb := Option.some.inj hb
  subst hb
  refine Tw ?_
  exact endI rfl
 ·have X := And.intro c9 X
  refine Tw ?_
  refine vq_eqi hb (fun q14 hq14 hb => ?_)
  refine Tw ?_
  refine bq_if hb rfl (fun c15 hb => ?_) (fun c15 hb => ?_)
  ·have X := And.intro c15 X
   refine Tw ?_
   refine fq_in fn_strconv_rangeError (by rfl) ?_
   refine Tw ?_
   refine bnd1 hb (fun r16 h17 hb => ?_)
   refine hq_Clone h17 ?_
   refine Tw ?_
   have hb := Option.some.inj hb
   subst hb
   refine Tw ?_
   exact endI rfl
  ·have X := And.intro c15 X
   refine Tw ?_
   refine vq_eqi hb (fun q20 hq20 hb => ?_)
   refine Tw ?_
   refine bq_if hb rfl (fun c21 hb => ?_) (fun c21 hb => ?_)
   ·cases hb
   ·have X := And.intro c21 X
    refine Tw ?_
    refine vq_eqi hb (fun q22 hq22 hb => ?_)
    refine Tw ?_
    refine bq_if hb rfl (fun c23 hb => ?_) (fun c23 hb => ?_)
    ·cases hb
    ·have hb := Option.some.inj hb
     subst hb
     have X := And.intro c23 X
     refine Tw ?_
     exact endI rfl
def G_strconv_ParseUint (s_2 : Bytes) (base_3 : Int) (bitSize_4 : Int) : Option (Int × Ifc) :=
 G_internal_strconv_ParseUint s_2 base_3 bitSize_4 >>= fun (r7, r8) =>
 if (!(Ifc.isNil r8)) then
  G_strconv_toError ([80, 97, 114, 115, 101, 85, 105, 110, 116] : Bytes) s_2 base_3 bitSize_4 r8 >>= fun r11 =>
  some (r7, r11)
 else
  some (r7, Ifc.nil)
theorem G_strconv_ParseUint_ok {s_2 : Bytes} {base_3 : Int} {bitSize_4 : Int} {r5 : Int} {r6 : Ifc} (hx : G_strconv_ParseUint s_2 base_3 bitSize_4 = some (r5, r6)) : PureE E 44 [(.str s_2), (.int .i64 base_3), (.int .i64 bitSize_4)] (fun v => v = (.tuple [(.int .u64 r5), (Ifc.pv r6)])) := by
 refine pureE_ok fn_strconv_ParseUint rfl ?_
 have hb := hx
 dsimp only [G_strconv_ParseUint] at hb
 have X := True.intro
 refine Tw ?_
 refine bnd2 hb (fun r7 r8 h9 hb => ?_)
 try dsimp only at hb
 refine pq_eq (G_internal_strconv_ParseUint_ok h9) ?_
 refine Tw ?_
 refine bq_if hb rfl (fun c10 hb => ?_) (fun c10 hb => ?_)
 ·have X := And.intro c10 X
  refine Tw ?_
  refine bnd1 hb (fun r11 h12 hb => ?_)
  refine pq_eq (G_strconv_toError_ok h12) ?_
  have hb := Option.some.inj hb
  obtain ⟨e0, e1⟩ := Prod.mk.inj hb
  subst e0
  subst e1
  refine Tw ?_
  exact endI rfl
 ·have hb := Option.some.inj hb
  obtain ⟨e0, e1⟩ := Prod.mk.inj hb
  subst e0
  subst e1
  have X := And.intro c10 X
  refine Tw ?_
  exact endI rfl
def G_cond_Number (s_2 : Bytes) : Option (Int × Bool × Int) :=
 (
  (
   if (Lib.hasPrefix s_2 ([48, 120] : Bytes)) then
    some true
   else
    some (Lib.hasPrefix s_2 ([48, 88] : Bytes))
  ) >>= fun v13 =>
  if v13 then
   subF s_2 (2 : Int) >>= fun t26 =>
   some ((16 : Int), ([48, 49, 50, 51, 52, 53, 54, 55, 56, 57, 97, 98, 99, 100, 101, 102, 65, 66, 67, 68, 69, 70] : Bytes), t26)
  else
   if (Lib.hasPrefix s_2 ([48] : Bytes)) then
    some ((8 : Int), ([48, 49, 50, 51, 52, 53, 54, 55] : Bytes), s_2)
   else
    some ((10 : Int), ([48, 49, 50, 51, 52, 53, 54, 55, 56, 57] : Bytes), s_2)
 ) >>= fun (base_28, digits_29, t_30) =>
 oCutLeft t_30 digits_29 >>= fun r40 =>
 subT t_30 (IntKind.wrap .i64 (((List.length t_30 : Nat) : Int) - ((List.length r40 : Nat) : Int))) >>= fun t42 =>
 G_cond_isSuffix r40 >>= fun (r43, r44) =>
 G_strconv_ParseUint t42 base_28 (64 : Int) >>= fun (r46, r47) =>
 (
  if (!r43) then
   some (Ex2.a ((0 : Int), false, (50 : Int)))
  else
   if (!(Ifc.isNil r47)) then
    some (Ex2.a ((0 : Int), false, (50 : Int)))
   else
    some (Ex2.b ())
 ) >>= fun j61 => match j61 with
  | .a q => some q
  | .b () =>
   if r44 then
    some (r46, true, (0 : Int))
   else
    if (!(base_28 == (10 : Int))) then
     oLen64 r46 >>= fun r67 =>
     some (r46, (r67 == (64 : Int)), (0 : Int))
    else
     some (r46, false, (0 : Int))
theorem G_cond_Number_ok {s_2 : Bytes} {r3 : Int} {r4 : Bool} {r5 : Int} (hx : G_cond_Number s_2 = some (r3, r4, r5)) : PureE E 29 [(.str s_2)] (fun v => v = (.tuple [(.int .u64 r3), (.bool r4), (.int .i64 r5)])) := by
 refine pureE_ok fn_cond_Number rfl ?_
 have hb := hx
 dsimp only [G_cond_Number] at hb
 have X := True.intro
 refine Tw ?_
 refine bnd1 hb (fun j36 hj hb => ?_)
 refine wq_joinF (fun Z => ∀ (f31 : Fr) (base_28 : Int) (digits_29 : Bytes) (t_30 : Bytes), (base_28, digits_29, t_30) = j36 → (f31 5 = (.int .i64 base_28) ∧ f31 6 = (.str digits_29) ∧ f31 7 = (.str t_30)) → Z f31) (fun Z hX8 => ?_) ?_
 ·have hr7 := hb
  clear hb
  have hb := hj
  clear hj
  refine wq_def J_cond_Number_1.eq_1 ?_
  refine Tw ?_
  refine Tw ?_
  refine bnd1 hb (fun j19 hj hb => ?_)
  refine wq_joinF (fun Z => ∀ (f14 : Fr) (v13 : Bool), v13 = j19 → (f14 0 = (.str s_2) ∧ f14 5 = (.int .i64 (10 : Int)) ∧ f14 6 = (.str ([48, 49, 50, 51, 52, 53, 54, 55, 56, 57] : Bytes)) ∧ f14 7 = (.str s_2) ∧ f14 14 = (.bool v13)) → Z f14) (fun Z hX11 => ?_) ?_
  ·have hr10 := hb
   clear hb
   have hb := hj
   clear hj
   refine wq_def J_cond_Number_2.eq_1 ?_
   refine Tw ?_
   refine Tw ?_
   refine bq_if hb rfl (fun c12 hb => ?_) (fun c12 hb => ?_)
   ·have hb := Option.some.inj hb
    subst hb
    have X := And.intro c12 X
    refine Tw ?_
    exact hX11 _ true rfl Cw
   ·have hb := Option.some.inj hb
    subst hb
    have X := And.intro c12 X
    refine Tw ?_
    exact hX11 _ (Lib.hasPrefix s_2 ([48, 88] : Bytes)) rfl Cw
  ·intro f14 v13 ej Y16
   subst ej
   try dsimp only at hb
   have X := And.intro Y16 X
   refine Tw ?_
   refine bq_if hb rfl (fun c25 hb => ?_) (fun c25 hb => ?_)
   ·have X := And.intro c25 X
    refine Tw ?_
    refine vq_subFs hb (fun t26 ht26 hb => ?_)
    have hb := Option.some.inj hb
    subst hb
    refine Tw ?_
    exact hX8 _ (16 : Int) ([48, 49, 50, 51, 52, 53, 54, 55, 56, 57, 97, 98, 99, 100, 101, 102, 65, 66, 67, 68, 69, 70] : Bytes) t26 rfl Cw
   ·have X := And.intro c25 X
    refine Tw ?_
    refine bq_if hb rfl (fun c27 hb => ?_) (fun c27 hb => ?_)
    ·have hb := Option.some.inj hb
     subst hb
     have X := And.intro c27 X
     refine Tw ?_
     exact hX8 _ (8 : Int) ([48, 49, 50, 51, 52, 53, 54, 55] : Bytes) s_2 rfl Cw
    ·have hb := Option.some.inj hb
     subst hb
     have X := And.intro c27 X
     refine Tw ?_
     exact hX8 _ (10 : Int) ([48, 49, 50, 51, 52, 53, 54, 55, 56, 57] : Bytes) s_2 rfl Cw
 ·intro f31 base_28 digits_29 t_30 ej Y33
  subst ej
  try dsimp only at hb
  have X := And.intro Y33 X
  refine Tw ?_
  refine bnd1 hb (fun r40 h41 hb => ?_)
  refine hq_cutLeft h41 ?_
  refine Tw ?_
  refine vq_subTs hb (fun t42 ht42 hb => ?_)
  refine Tw ?_
  refine bnd2 hb (fun r43 r44 h45 hb => ?_)
  try dsimp only at hb
  refine pq_eq (G_cond_isSuffix_ok h45) ?_
  refine Tw ?_
  refine bnd2 hb (fun r46 r47 h48 hb => ?_)
  try dsimp only at hb
  refine pq_eq (G_strconv_ParseUint_ok h48) ?_
  refine Tw ?_
  refine bnd1 hb (fun j61 hj hb => ?_)
  refine wq_joinF (fun Z => ∀ (f56 : Fr), Ex2.b () = j61 → (f56 5 = (.int .i64 base_28) ∧ f56 10 = (.bool r44) ∧ f56 11 = (.int .u64 r46)) → Z f56) (fun Z hX51 => ?_) ?_
  ·have hr50 := hb
   clear hb
   have hb := hj
   clear hj
   refine wq_def J_cond_Number_3.eq_1 ?_
   refine Tw ?_
   refine Tw ?_
   refine bq_if hb rfl (fun c52 hb => ?_) (fun c52 hb => ?_)
   ·have hq := Option.some.inj hb
    subst hq
    try dsimp only at hr50
    have hb := hr50
    have hb := Option.some.inj hb
    obtain ⟨e0, hb⟩ := Prod.mk.inj hb
    obtain ⟨e1, e2⟩ := Prod.mk.inj hb
    subst e0
    subst e1
    subst e2
    have X := And.intro c52 X
    refine Tw ?_
    exact endI rfl
   ·have X := And.intro c52 X
    refine Tw ?_
    refine bq_if hb rfl (fun c54 hb => ?_) (fun c54 hb => ?_)
    ·have hq := Option.some.inj hb
     subst hq
     try dsimp only at hr50
     have hb := hr50
     have hb := Option.some.inj hb
     obtain ⟨e0, hb⟩ := Prod.mk.inj hb
     obtain ⟨e1, e2⟩ := Prod.mk.inj hb
     subst e0
     subst e1
     subst e2
     have X := And.intro c54 X
     refine Tw ?_
     exact endI rfl
    ·have hb := Option.some.inj hb
     subst hb
     have X := And.intro c54 X
     refine Tw ?_
     exact hX51 _ rfl Cw
  ·intro f56 ej Y58
   subst ej
   try dsimp only at hb
   have X := And.intro Y58 X
   refine Tw ?_
   refine bq_if hb rfl (fun c65 hb => ?_) (fun c65 hb => ?_)
   ·have hb := Option.some.inj hb
    obtain ⟨e0, hb⟩ := Prod.mk.inj hb
    obtain ⟨e1, e2⟩ := Prod.mk.inj hb
    subst e0
    subst e1
    subst e2
    have X := And.intro c65 X
    refine Tw ?_
    exact endI rfl
   ·have X := And.intro c65 X
    refine Tw ?_
    refine bq_if hb rfl (fun c66 hb => ?_) (fun c66 hb => ?_)
    ·have X := And.intro c66 X
     refine Tw ?_
     refine bnd1 hb (fun r67 h68 hb => ?_)
     refine hq_Len64 h68 ?_
     have hb := Option.some.inj hb
     obtain ⟨e0, hb⟩ := Prod.mk.inj hb
     obtain ⟨e1, e2⟩ := Prod.mk.inj hb
     subst e0
     subst e1
     subst e2
     refine Tw ?_
     exact endI rfl
    ·have hb := Option.some.inj hb
     obtain ⟨e0, hb⟩ := Prod.mk.inj hb
     obtain ⟨e1, e2⟩ := Prod.mk.inj hb
     subst e0
     subst e1
     subst e2
     have X := And.intro c66 X
     refine Tw ?_
     exact endI rfl
end Go.Proofs.YtmngkcpobmhnoaaGreatDoor.Sim
