/- Printed functions, continued. -/
import Derived.Test.YtmngkcpobmhnoaaGreatDoorKG3
set_option linter.all false
set_option maxHeartbeats 4000000
set_option maxRecDepth 20000
namespace Go.Proofs.YtmngkcpobmhnoaaGreatDoor.Sim
def G_lex_number (s_2 : Bytes) : Option (Int × Int) :=
 G_cond_Number s_2 >>= fun (r5, r6, r7) =>
 if (!(r7 == (0 : Int))) then
  some ((0 : Int), (0 : Int))
 else
  oContainsAny s_2 ([117, 85] : Bytes) >>= fun r10 =>
  oContainsAny s_2 ([108, 76] : Bytes) >>= fun r12 =>
  idx s_2 (0 : Int) >>= fun x14 =>
  (
   if (!r10) then
    if (!r12) then
     some (decide (r5 < (2147483648 : Int)))
    else
     some false
   else
    some false
  ) >>= fun v20 =>
  if v20 then
   some ((IntKind.wrap .i64 r5), (5 : Int))
  else
   (
    if r10 then
     if (!r12) then
      some (true, ((x14.toNat : Int) == (48 : Int)), (decide (r5 < (4294967296 : Int))))
     else
      some (true, ((x14.toNat : Int) == (48 : Int)), false)
    else
     if ((x14.toNat : Int) == (48 : Int)) then
      if (!r12) then
       some (false, true, (decide (r5 < (4294967296 : Int))))
      else
       some (false, true, false)
     else
      some (false, false, false)
   ) >>= fun (unsigned_40, both_41, v42) =>
   if v42 then
    some ((IntKind.wrap .i64 r5), (6 : Int))
   else
    (
     if (!unsigned_40) then
      some (decide (r5 < (9223372036854775808 : Int)))
     else
      some false
    ) >>= fun v58 =>
    if v58 then
     some ((IntKind.wrap .i64 r5), (7 : Int))
    else
     if unsigned_40 then
      some ((IntKind.wrap .i64 r5), (8 : Int))
     else
      if both_41 then
       some ((IntKind.wrap .i64 r5), (8 : Int))
      else
       some ((0 : Int), (0 : Int))
theorem G_lex_number_ok {s_2 : Bytes} {r3 : Int} {r4 : Int} (hx : G_lex_number s_2 = some (r3, r4)) : PureE E 80 [(.str s_2)] (fun v => v = (.tuple [(.int .i64 r3), (.int .i64 r4)])) := by
 refine pureE_ok fn_lex_number rfl ?_
 have hb := hx
 dsimp only [G_lex_number] at hb
 have X := True.intro
 refine Tw ?_
 refine bnd3 hb (fun r5 r6 r7 h8 hb => ?_)
 try dsimp only at hb
 refine pq_eq (G_cond_Number_ok h8) ?_
 refine Tw ?_
 refine bq_if hb rfl (fun c9 hb => ?_) (fun c9 hb => ?_)
 ·have hb := Option.some.inj hb
  obtain ⟨e0, e1⟩ := Prod.mk.inj hb
  subst e0
  subst e1
  have X := And.intro c9 X
  refine Tw ?_
  exact endI rfl
 ·have X := And.intro c9 X
  refine Tw ?_
  refine bnd1 hb (fun r10 h11 hb => ?_)
  refine hq_ContainsAny h11 ?_
  refine Tw ?_
  refine bnd1 hb (fun r12 h13 hb => ?_)
  refine hq_ContainsAny h13 ?_
  refine Tw ?_
  refine vq_idxS hb (fun x14 hx14 hb => ?_)
  refine Tw ?_
  refine bnd1 hb (fun j26 hj hb => ?_)
  refine wq_joinF (fun Z => ∀ (f21 : Fr) (v20 : Bool), v20 = j26 → (f21 4 = (.int .u64 r5) ∧ f21 7 = (.bool r10) ∧ f21 8 = (.bool r12) ∧ f21 9 = (.bool ((x14.toNat : Int) == (48 : Int))) ∧ f21 25 = (.bool v20)) → Z f21) (fun Z hX17 => ?_) ?_
  ·have hr16 := hb
   clear hb
   have hb := hj
   clear hj
   refine wq_def J_lex_number_1.eq_1 ?_
   refine Tw ?_
   refine Tw ?_
   refine bq_if hb rfl (fun c18 hb => ?_) (fun c18 hb => ?_)
   ·have X := And.intro c18 X
    refine Tw ?_
    refine bq_if hb rfl (fun c19 hb => ?_) (fun c19 hb => ?_)
    ·have hb := Option.some.inj hb
     subst hb
     have X := And.intro c19 X
     refine Tw ?_
     exact hX17 _ (decide (r5 < (2147483648 : Int))) rfl Cw
    ·have hb := Option.some.inj hb
     subst hb
     have X := And.intro c19 X
     refine Tw ?_
     exact hX17 _ false rfl Cw
   ·have hb := Option.some.inj hb
    subst hb
    have X := And.intro c18 X
    refine Tw ?_
    exact hX17 _ false rfl Cw
  ·intro f21 v20 ej Y23
   subst ej
   try dsimp only at hb
   have X := And.intro Y23 X
   refine Tw ?_
   refine bq_if hb rfl (fun c32 hb => ?_) (fun c32 hb => ?_)
   ·have hb := Option.some.inj hb
    obtain ⟨e0, e1⟩ := Prod.mk.inj hb
    subst e0
    subst e1
    have X := And.intro c32 X
    refine Tw ?_
    exact endI rfl
   ·have X := And.intro c32 X
    refine Tw ?_
    refine bnd1 hb (fun j48 hj hb => ?_)
    refine wq_joinF (fun Z => ∀ (f43 : Fr) (unsigned_40 : Bool) (both_41 : Bool) (v42 : Bool), (unsigned_40, both_41, v42) = j48 → (f43 4 = (.int .u64 r5) ∧ f43 7 = (.bool unsigned_40) ∧ f43 9 = (.bool both_41) ∧ f43 38 = (.bool v42)) → Z f43) (fun Z hX35 => ?_) ?_
    ·have hr34 := hb
     clear hb
     have hb := hj
     clear hj
     refine wq_def J_lex_number_2.eq_1 ?_
     refine Tw ?_
     refine Tw ?_
     refine bq_if hb rfl (fun c36 hb => ?_) (fun c36 hb => ?_)
     ·have X := And.intro c36 X
      refine Tw ?_
      refine bq_if hb rfl (fun c37 hb => ?_) (fun c37 hb => ?_)
      ·have hb := Option.some.inj hb
       subst hb
       have X := And.intro c37 X
       refine Tw ?_
       exact hX35 _ true ((x14.toNat : Int) == (48 : Int)) (decide (r5 < (4294967296 : Int))) rfl Cw
      ·have hb := Option.some.inj hb
       subst hb
       have X := And.intro c37 X
       refine Tw ?_
       exact hX35 _ true ((x14.toNat : Int) == (48 : Int)) false rfl Cw
     ·have X := And.intro c36 X
      refine Tw ?_
      refine bq_if hb rfl (fun c38 hb => ?_) (fun c38 hb => ?_)
      ·have X := And.intro c38 X
       refine Tw ?_
       refine bq_if hb rfl (fun c39 hb => ?_) (fun c39 hb => ?_)
       ·have hb := Option.some.inj hb
        subst hb
        have X := And.intro c39 X
        refine Tw ?_
        exact hX35 _ false true (decide (r5 < (4294967296 : Int))) rfl Cw
       ·have hb := Option.some.inj hb
        subst hb
        have X := And.intro c39 X
        refine Tw ?_
        exact hX35 _ false true false rfl Cw
      ·have hb := Option.some.inj hb
       subst hb
       have X := And.intro c38 X
       refine Tw ?_
       exact hX35 _ false false false rfl Cw
    ·intro f43 unsigned_40 both_41 v42 ej Y45
     subst ej
     try dsimp only at hb
     have X := And.intro Y45 X
     refine Tw ?_
     refine bq_if hb rfl (fun c53 hb => ?_) (fun c53 hb => ?_)
     ·have hb := Option.some.inj hb
      obtain ⟨e0, e1⟩ := Prod.mk.inj hb
      subst e0
      subst e1
      have X := And.intro c53 X
      refine Tw ?_
      exact endI rfl
     ·have X := And.intro c53 X
      refine Tw ?_
      refine bnd1 hb (fun j64 hj hb => ?_)
      refine wq_joinF (fun Z => ∀ (f59 : Fr) (v58 : Bool), v58 = j64 → (f59 4 = (.int .u64 r5) ∧ f59 7 = (.bool unsigned_40) ∧ f59 9 = (.bool both_41) ∧ f59 53 = (.bool v58)) → Z f59) (fun Z hX56 => ?_) ?_
      ·have hr55 := hb
       clear hb
       have hb := hj
       clear hj
       refine wq_def J_lex_number_3.eq_1 ?_
       refine Tw ?_
       refine Tw ?_
       refine bq_if hb rfl (fun c57 hb => ?_) (fun c57 hb => ?_)
       ·have hb := Option.some.inj hb
        subst hb
        have X := And.intro c57 X
        refine Tw ?_
        exact hX56 _ (decide (r5 < (9223372036854775808 : Int))) rfl Cw
       ·have hb := Option.some.inj hb
        subst hb
        have X := And.intro c57 X
        refine Tw ?_
        exact hX56 _ false rfl Cw
      ·intro f59 v58 ej Y61
       subst ej
       try dsimp only at hb
       have X := And.intro Y61 X
       refine Tw ?_
       refine bq_if hb rfl (fun c69 hb => ?_) (fun c69 hb => ?_)
       ·have hb := Option.some.inj hb
        obtain ⟨e0, e1⟩ := Prod.mk.inj hb
        subst e0
        subst e1
        have X := And.intro c69 X
        refine Tw ?_
        exact endI rfl
       ·have X := And.intro c69 X
        refine Tw ?_
        refine bq_if hb rfl (fun c70 hb => ?_) (fun c70 hb => ?_)
        ·have hb := Option.some.inj hb
         obtain ⟨e0, e1⟩ := Prod.mk.inj hb
         subst e0
         subst e1
         have X := And.intro c70 X
         refine Tw ?_
         exact endI rfl
        ·have X := And.intro c70 X
         refine Tw ?_
         refine bq_if hb rfl (fun c71 hb => ?_) (fun c71 hb => ?_)
         ·have hb := Option.some.inj hb
          obtain ⟨e0, e1⟩ := Prod.mk.inj hb
          subst e0
          subst e1
          have X := And.intro c71 X
          refine Tw ?_
          exact endI rfl
         ·have hb := Option.some.inj hb
          obtain ⟨e0, e1⟩ := Prod.mk.inj hb
          subst e0
          subst e1
          have X := And.intro c71 X
          refine Tw ?_
          exact endI rfl
def G_cond_digitsOf_L1 (s_6 : Bytes) (digits_7 : Bytes) (most_8 : Int) : Int → Option ((Int) ⊕ (Int)) := fun n_9 =>
 if (decide (n_9 < ((List.length s_6 : Nat) : Int))) then
  if (decide (n_9 < most_8)) then
   idx s_6 n_9 >>= fun x23 =>
   if (decide ((0 : Int) ≤ (Lib.indexByte digits_7 (Int.toNat (x23.toNat : Int)).toUInt8))) then
    some (Sum.inl (IntKind.wrap .i64 (n_9 + (1 : Int))))
   else
    some (Sum.inr n_9)
  else
   some (Sum.inr n_9)
 else
  some (Sum.inr n_9)
theorem G_cond_digitsOf_L1_ok {κ : Kt} {t : Blk κ} {s_6 : Bytes} {digits_7 : Bytes} {most_8 : Int} {h11 : Heap} (n_9 : Int) (x : Int) (hx : loopO (G_cond_digitsOf_L1 s_6 digits_7 most_8) n_9 = some x) (hh : True) (ho : True) : ∀ (f10 : Fr), (f10 0 = (.str s_6) ∧ f10 1 = (.str digits_7) ∧ f10 2 = (.int .i64 most_8) ∧ f10 7 = (.int .i64 n_9)) → (∀ (f26 : Fr) (n_25 : Int), n_25 = x → (f26 7 = (.int .i64 n_25)) → κ.B 0 f26 h11) → Lq E (.loop L_cond_digitsOf_1) κ t f10 h11 := by
 revert n_9 x
 refine loop1' ?_
 intro n_9 r hb x hn f10  Y12  ex0
 dsimp only [G_cond_digitsOf_L1] at hb
 refine loop_step L_cond_digitsOf_1.eq_1 ?_
 have X := Y12
 refine Tw ?_
 refine Tw ?_
 refine bq_if hb rfl (fun c21 hb => ?_) (fun c21 hb => ?_)
 ·have X := And.intro c21 X
  refine Tw ?_
  refine bq_if hb rfl (fun c22 hb => ?_) (fun c22 hb => ?_)
  ·have X := And.intro c22 X
   refine Tw ?_
   refine vq_idxS hb (fun x23 hx23 hb => ?_)
   refine Tw ?_
   refine bq_if hb rfl (fun c24 hb => ?_) (fun c24 hb => ?_)
   ·have hb := Option.some.inj hb
    subst hb
    have X := And.intro c24 X
    refine Tw ?_
    exact hn _  Cw ex0
   ·have hb := Option.some.inj hb
    subst hb
    have hn : _ = _ := hn
    subst hn
    have X := And.intro c24 X
    refine Tw ?_
    exact ex0 _ n_9 rfl Cw
  ·have hb := Option.some.inj hb
   subst hb
   have hn : _ = _ := hn
   subst hn
   have X := And.intro c22 X
   refine Tw ?_
   exact ex0 _ n_9 rfl Cw
 ·have hb := Option.some.inj hb
  subst hb
  have hn : _ = _ := hn
  subst hn
  have X := And.intro c21 X
  refine Tw ?_
  exact ex0 _ n_9 rfl Cw
def G_cond_digitsOf (s_2 : Bytes) (digits_3 : Bytes) (most_4 : Int) : Option (Int) :=
 loopO (G_cond_digitsOf_L1 s_2 digits_3 most_4) (0 : Int) >>= fun n_25 =>
 some n_25
theorem G_cond_digitsOf_ok {s_2 : Bytes} {digits_3 : Bytes} {most_4 : Int} {r5 : Int} (hx : G_cond_digitsOf s_2 digits_3 most_4 = some r5) : PureE E 154 [(.str s_2), (.str digits_3), (.int .i64 most_4)] (fun v => v = (.int .i64 r5)) := by
 refine pureE_ok fn_cond_digitsOf rfl ?_
 have hb := hx
 dsimp only [G_cond_digitsOf] at hb
 have X := True.intro
 refine Tw ?_
 refine bnd1 hb (fun q31 h32 hb => ?_)
 refine G_cond_digitsOf_L1_ok _ _ h32 trivial trivial _ Cw ?_
 ·intro f26 n_25 ex Y28
  subst ex
  have hb := Option.some.inj hb
  subst hb
  have X := And.intro Y28 X
  refine Tw ?_
  exact endI rfl
def G_cond_escape (s_2 : Bytes) : Option (Int × Bytes × Bool) :=
 if (s_2 == ([] : Bytes)) then
  some ((0 : Int), ([] : Bytes), false)
 else
  idx s_2 (0 : Int) >>= fun x7 =>
  if (decide ((0 : Int) ≤ (Lib.indexByte ([110, 116, 118, 98, 114, 102, 97, 92, 39, 34, 63] : Bytes) (Int.toNat (x7.toNat : Int)).toUInt8))) then
   idx ([10, 9, 11, 8, 13, 12, 7, 92, 39, 34, 63] : Bytes) (Lib.indexByte ([110, 116, 118, 98, 114, 102, 97, 92, 39, 34, 63] : Bytes) (Int.toNat (x7.toNat : Int)).toUInt8) >>= fun x9 =>
   subF s_2 (1 : Int) >>= fun t10 =>
   some ((x9.toNat : Int), t10, true)
  else
   G_cond_digitsOf s_2 ([48, 49, 50, 51, 52, 53, 54, 55] : Bytes) (3 : Int) >>= fun r11 =>
   (
    idx s_2 (0 : Int) >>= fun x16 =>
    if ((x16.toNat : Int) == (120 : Int)) then
     subF s_2 (1 : Int) >>= fun t18 =>
     G_cond_digitsOf t18 ([48, 49, 50, 51, 52, 53, 54, 55, 56, 57, 97, 98, 99, 100, 101, 102, 65, 66, 67, 68, 69, 70] : Bytes) ((List.length t18 : Nat) : Int) >>= fun r19 =>
     some (t18, (16 : Int), r19)
    else
     some (s_2, (8 : Int), r11)
   ) >>= fun (s_21, base_22, n_23) =>
   subT s_21 n_23 >>= fun t33 =>
   (
    if (base_22 == (16 : Int)) then
     oTrimLeft t33 ([48] : Bytes) >>= fun r38 =>
     if (decide ((0 : Int) < n_23)) then
      if (r38 == ([] : Bytes)) then
       some ([48] : Bytes)
      else
       some r38
     else
      some r38
    else
     some t33
   ) >>= fun t_42 =>
   G_strconv_ParseUint t_42 base_22 (8 : Int) >>= fun (r53, r54) =>
   subF s_21 n_23 >>= fun t56 =>
   some ((IntKind.wrap .u8 r53), t56, (Ifc.isNil r54))
theorem G_cond_escape_ok {s_2 : Bytes} {r3 : Int} {r4 : Bytes} {r5 : Bool} (hx : G_cond_escape s_2 = some (r3, r4, r5)) : PureE E 120 [(.str s_2)] (fun v => v = (.tuple [(.int .u8 r3), (.str r4), (.bool r5)])) := by
 refine pureE_ok fn_cond_escape rfl ?_
 have hb := hx
 dsimp only [G_cond_escape] at hb
 have X := True.intro
 refine Tw ?_
 refine bq_if hb rfl (fun c6 hb => ?_) (fun c6 hb => ?_)
 ·have hb := Option.some.inj hb
  obtain ⟨e0, hb⟩ := Prod.mk.inj hb
  obtain ⟨e1, e2⟩ := Prod.mk.inj hb
  subst e0
  subst e1
  subst e2
  have X := And.intro c6 X
  refine Tw ?_
  exact endI rfl
 ·have X := And.intro c6 X
  refine Tw ?_
  refine vq_idxS hb (fun x7 hx7 hb => ?_)
  refine Tw ?_
  refine bq_if hb rfl (fun c8 hb => ?_) (fun c8 hb => ?_)
  ·have X := And.intro c8 X
   refine Tw ?_
   refine vq_idxS hb (fun x9 hx9 hb => ?_)
   refine Tw ?_
   refine vq_subFs hb (fun t10 ht10 hb => ?_)
   have hb := Option.some.inj hb
   obtain ⟨e0, hb⟩ := Prod.mk.inj hb
   obtain ⟨e1, e2⟩ := Prod.mk.inj hb
   subst e0
   subst e1
   subst e2
   refine Tw ?_
   exact endI rfl
  ·have X := And.intro c8 X
   refine Tw ?_
   refine bnd1 hb (fun r11 h12 hb => ?_)
   refine pq_eq (G_cond_digitsOf_ok h12) ?_
   refine Tw ?_
   refine bnd1 hb (fun j29 hj hb => ?_)
   refine wq_joinF (fun Z => ∀ (f24 : Fr) (s_21 : Bytes) (base_22 : Int) (n_23 : Int), (s_21, base_22, n_23) = j29 → (f24 0 = (.str s_21) ∧ f24 6 = (.int .i64 base_22) ∧ f24 7 = (.int .i64 n_23)) → Z f24) (fun Z hX15 => ?_) ?_
   ·have hr14 := hb
    clear hb
    have hb := hj
    clear hj
    refine wq_def J_cond_escape_1.eq_1 ?_
    refine Tw ?_
    refine Tw ?_
    refine vq_idxS hb (fun x16 hx16 hb => ?_)
    refine Tw ?_
    refine bq_if hb rfl (fun c17 hb => ?_) (fun c17 hb => ?_)
    ·have X := And.intro c17 X
     refine Tw ?_
     refine vq_subFs hb (fun t18 ht18 hb => ?_)
     refine Tw ?_
     refine bnd1 hb (fun r19 h20 hb => ?_)
     refine pq_eq (G_cond_digitsOf_ok h20) ?_
     have hb := Option.some.inj hb
     subst hb
     refine Tw ?_
     exact hX15 _ t18 (16 : Int) r19 rfl Cw
    ·have hb := Option.some.inj hb
     subst hb
     have X := And.intro c17 X
     refine Tw ?_
     exact hX15 _ s_2 (8 : Int) r11 rfl Cw
   ·intro f24 s_21 base_22 n_23 ej Y26
    subst ej
    try dsimp only at hb
    have X := And.intro Y26 X
    refine Tw ?_
    refine vq_subTs hb (fun t33 ht33 hb => ?_)
    refine Tw ?_
    refine bnd1 hb (fun j48 hj hb => ?_)
    refine wq_joinF (fun Z => ∀ (f43 : Fr) (t_42 : Bytes), t_42 = j48 → (f43 0 = (.str s_21) ∧ f43 6 = (.int .i64 base_22) ∧ f43 7 = (.int .i64 n_23) ∧ f43 8 = (.str t_42)) → Z f43) (fun Z hX36 => ?_) ?_
    ·have hr35 := hb
     clear hb
     have hb := hj
     clear hj
     refine wq_def J_cond_escape_2.eq_1 ?_
     refine Tw ?_
     refine Tw ?_
     refine bq_if hb rfl (fun c37 hb => ?_) (fun c37 hb => ?_)
     ·have X := And.intro c37 X
      refine Tw ?_
      refine bnd1 hb (fun r38 h39 hb => ?_)
      refine hq_TrimLeft h39 ?_
      refine Tw ?_
      refine bq_if hb rfl (fun c40 hb => ?_) (fun c40 hb => ?_)
      ·have X := And.intro c40 X
       refine Tw ?_
       refine bq_if hb rfl (fun c41 hb => ?_) (fun c41 hb => ?_)
       ·have hb := Option.some.inj hb
        subst hb
        have X := And.intro c41 X
        refine Tw ?_
        exact hX36 _ ([48] : Bytes) rfl Cw
       ·have hb := Option.some.inj hb
        subst hb
        have X := And.intro c41 X
        refine Tw ?_
        exact hX36 _ r38 rfl Cw
      ·have hb := Option.some.inj hb
       subst hb
       have X := And.intro c40 X
       refine Tw ?_
       exact hX36 _ r38 rfl Cw
     ·have hb := Option.some.inj hb
      subst hb
      have X := And.intro c37 X
      refine Tw ?_
      exact hX36 _ t33 rfl Cw
    ·intro f43 t_42 ej Y45
     subst ej
     try dsimp only at hb
     have X := And.intro Y45 X
     refine Tw ?_
     refine bnd2 hb (fun r53 r54 h55 hb => ?_)
     try dsimp only at hb
     refine pq_eq (G_strconv_ParseUint_ok h55) ?_
     refine Tw ?_
     refine vq_subFs hb (fun t56 ht56 hb => ?_)
     have hb := Option.some.inj hb
     obtain ⟨e0, hb⟩ := Prod.mk.inj hb
     obtain ⟨e1, e2⟩ := Prod.mk.inj hb
     subst e0
     subst e1
     subst e2
     refine Tw ?_
     exact endI rfl
def G_cond_Char (s_2 : Bytes) : Option (Int × Int) :=
 oCutSuffix (Lib.trimPrefix s_2 ([39] : Bytes)) ([39] : Bytes) >>= fun (r5, r6) =>
 (
  if (!(Lib.hasPrefix s_2 ([39] : Bytes))) then
   some (Ex2.a ((0 : Int), (50 : Int)))
  else
   if (!r6) then
    some (Ex2.a ((0 : Int), (50 : Int)))
   else
    if (r5 == ([] : Bytes)) then
     some (Ex2.a ((0 : Int), (50 : Int)))
    else
     some (Ex2.b ())
 ) >>= fun j22 => match j22 with
  | .a q => some q
  | .b () =>
   idx r5 (0 : Int) >>= fun x24 =>
   subF r5 (1 : Int) >>= fun t25 =>
   idx r5 (0 : Int) >>= fun x26 =>
   (
    if ((x24.toNat : Int) == (92 : Int)) then
     G_cond_escape t25 >>= fun (r31, r32, r33) =>
     some (r31, r32, r33)
    else
     some ((x24.toNat : Int), t25, (decide ((Lib.indexByte ([39, 10, 13] : Bytes) (Int.toNat (x26.toNat : Int)).toUInt8) < (0 : Int))))
   ) >>= fun (c_35, rest_36, ok_37) =>
   if (!ok_37) then
    some ((0 : Int), (50 : Int))
   else
    if (!(rest_36 == ([] : Bytes))) then
     some ((0 : Int), (50 : Int))
    else
     some ((IntKind.wrap .i64 (IntKind.wrap .i8 c_35)), (0 : Int))
theorem G_cond_Char_ok {s_2 : Bytes} {r3 : Int} {r4 : Int} (hx : G_cond_Char s_2 = some (r3, r4)) : PureE E 81 [(.str s_2)] (fun v => v = (.tuple [(.int .i64 r3), (.int .i64 r4)])) := by
 refine pureE_ok fn_cond_Char rfl ?_
 have hb := hx
 dsimp only [G_cond_Char] at hb
 have X := True.intro
 refine Tw ?_
 refine bnd2 hb (fun r5 r6 h7 hb => ?_)
 dsimp only at hb
 refine hq_CutSuffix h7 ?_
 refine Tw ?_
 refine bnd1 hb (fun j22 hj hb => ?_)
 refine wq_joinF (fun Z => ∀ (f17 : Fr), Ex2.b () = j22 → (f17 4 = (.str r5)) → Z f17) (fun Z hX10 => ?_) ?_
 ·have hr9 := hb
  clear hb
  have hb := hj
  clear hj
  refine wq_def J_cond_Char_1.eq_1 ?_
  refine Tw ?_
  refine Tw ?_
  refine bq_if hb rfl (fun c11 hb => ?_) (fun c11 hb => ?_)
  ·have hq := Option.some.inj hb
   subst hq
   try dsimp only at hr9
   have hb := hr9
   have hb := Option.some.inj hb
   obtain ⟨e0, e1⟩ := Prod.mk.inj hb
   subst e0
   subst e1
   have X := And.intro c11 X
   refine Tw ?_
   exact endI rfl
  ·have X := And.intro c11 X
   refine Tw ?_
   refine bq_if hb rfl (fun c13 hb => ?_) (fun c13 hb => ?_)
   ·have hq := Option.some.inj hb
    subst hq
    try dsimp only at hr9
    have hb := hr9
    have hb := Option.some.inj hb
    obtain ⟨e0, e1⟩ := Prod.mk.inj hb
    subst e0
    subst e1
    have X := And.intro c13 X
    refine Tw ?_
    exact endI rfl
   ·have X := And.intro c13 X
    refine Tw ?_
    refine bq_if hb rfl (fun c15 hb => ?_) (fun c15 hb => ?_)
    ·have hq := Option.some.inj hb
     subst hq
     try dsimp only at hr9
     have hb := hr9
     have hb := Option.some.inj hb
     obtain ⟨e0, e1⟩ := Prod.mk.inj hb
     subst e0
     subst e1
     have X := And.intro c15 X
     refine Tw ?_
     exact endI rfl
    ·have hb := Option.some.inj hb
     subst hb
     have X := And.intro c15 X
     refine Tw ?_
     exact hX10 _ rfl Cw
 ·intro f17 ej Y19
  subst ej
  try dsimp only at hb
  have X := And.intro Y19 X
  refine Tw ?_
  refine vq_idxS hb (fun x24 hx24 hb => ?_)
  refine Tw ?_
  refine vq_subFs hb (fun t25 ht25 hb => ?_)
  refine Tw ?_
  refine vq_idxS hb (fun x26 hx26 hb => ?_)
  refine Tw ?_
  refine bnd1 hb (fun j43 hj hb => ?_)
  refine wq_joinF (fun Z => ∀ (f38 : Fr) (c_35 : Int) (rest_36 : Bytes) (ok_37 : Bool), (c_35, rest_36, ok_37) = j43 → (f38 7 = (.int .u8 c_35) ∧ f38 8 = (.str rest_36) ∧ f38 9 = (.bool ok_37)) → Z f38) (fun Z hX29 => ?_) ?_
  ·have hr28 := hb
   clear hb
   have hb := hj
   clear hj
   refine wq_def J_cond_Char_2.eq_1 ?_
   refine Tw ?_
   refine Tw ?_
   refine bq_if hb rfl (fun c30 hb => ?_) (fun c30 hb => ?_)
   ·have X := And.intro c30 X
    refine Tw ?_
    refine bnd3 hb (fun r31 r32 r33 h34 hb => ?_)
    try dsimp only at hb
    refine pq_eq (G_cond_escape_ok h34) ?_
    have hb := Option.some.inj hb
    subst hb
    refine Tw ?_
    exact hX29 _ r31 r32 r33 rfl Cw
   ·have hb := Option.some.inj hb
    subst hb
    have X := And.intro c30 X
    refine Tw ?_
    exact hX29 _ (x24.toNat : Int) t25 (decide ((Lib.indexByte ([39, 10, 13] : Bytes) (Int.toNat (x26.toNat : Int)).toUInt8) < (0 : Int))) rfl Cw
  ·intro f38 c_35 rest_36 ok_37 ej Y40
   subst ej
   try dsimp only at hb
   have X := And.intro Y40 X
   refine Tw ?_
   refine bq_if hb rfl (fun c47 hb => ?_) (fun c47 hb => ?_)
   ·have hb := Option.some.inj hb
    obtain ⟨e0, e1⟩ := Prod.mk.inj hb
    subst e0
    subst e1
    have X := And.intro c47 X
    refine Tw ?_
    exact endI rfl
   ·have X := And.intro c47 X
    refine Tw ?_
    refine bq_if hb rfl (fun c48 hb => ?_) (fun c48 hb => ?_)
    ·have hb := Option.some.inj hb
     obtain ⟨e0, e1⟩ := Prod.mk.inj hb
     subst e0
     subst e1
     have X := And.intro c48 X
     refine Tw ?_
     exact endI rfl
    ·have hb := Option.some.inj hb
     obtain ⟨e0, e1⟩ := Prod.mk.inj hb
     subst e0
     subst e1
     have X := And.intro c48 X
     refine Tw ?_
     exact endI rfl
def G_lex_wordOf (t_2 : T_api_Tok) : Option (T_api_Word × Bool) :=
 (
  G_token_One t_2.S_ >>= fun (r15, r16) =>
  if (!r16) then
   some (Ex2.a ((T_api_Word.mk (0 : Int) [] (0 : Int) (0 : Int) t_2.File_ t_2.Line_), false))
  else
   if (!(r15.Kind_ == t_2.Kind_)) then
    some (Ex2.a ((T_api_Word.mk (0 : Int) [] (0 : Int) (0 : Int) t_2.File_ t_2.Line_), false))
   else
    some (Ex2.b ())
 ) >>= fun j33 => match j33 with
  | .a q => some q
  | .b () =>
   if (t_2.Kind_ == (1 : Int)) then
    G_lex_IsKey t_2.S_ >>= fun r43 =>
    if r43 then
     some ((T_api_Word.mk (1 : Int) t_2.S_ (0 : Int) (0 : Int) t_2.File_ t_2.Line_), true)
    else
     some ((T_api_Word.mk (2 : Int) t_2.S_ (0 : Int) (0 : Int) t_2.File_ t_2.Line_), true)
   else
    if (t_2.Kind_ == (2 : Int)) then
     G_lex_number t_2.S_ >>= fun (r51, r52) =>
     some ((T_api_Word.mk (3 : Int) [] r51 r52 t_2.File_ t_2.Line_), (!(r52 == (0 : Int))))
    else
     if (t_2.Kind_ == (3 : Int)) then
      G_cond_Char t_2.S_ >>= fun (r58, r59) =>
      some ((T_api_Word.mk (3 : Int) [] r58 (5 : Int) t_2.File_ t_2.Line_), (r59 == (0 : Int)))
     else
      if (t_2.Kind_ == (5 : Int)) then
       idx t_2.S_ (0 : Int) >>= fun x68 =>
       some ((T_api_Word.mk (5 : Int) t_2.S_ (0 : Int) (0 : Int) t_2.File_ t_2.Line_), (!((x68.toNat : Int) == (35 : Int))))
      else
       some ((T_api_Word.mk (0 : Int) [] (0 : Int) (0 : Int) t_2.File_ t_2.Line_), false)
theorem G_lex_wordOf_ok {t_2 : T_api_Tok} {r3 : T_api_Word} {r4 : Bool} (hx : G_lex_wordOf t_2 = some (r3, r4)) : PureE E 55 [(.agg [(.int .i64 t_2.Kind_), (.str t_2.S_), (.str t_2.File_), (.int .i64 t_2.Line_), (.bool t_2.Space_), (.bool t_2.First_)])] (fun v => v = (.tuple [(.agg [(.int .i64 r3.Kind_), (.str r3.S_), (.int .i64 r3.V_), (.int .i64 r3.T_), (.str r3.File_), (.int .i64 r3.Line_)]), (.bool r4)])) := by
 refine pureE_ok fn_lex_wordOf rfl ?_
 have hb := hx
 dsimp only [G_lex_wordOf] at hb
 have X := True.intro
 refine Tw ?_
 refine bnd1 hb (fun j33 hj hb => ?_)
 refine wq_join (fun Z => ∀ (f27 : Fr) (h28 : Heap), Ex2.b () = j33 → (f27 1 = (.ptr 0 0) ∧ f27 2 = (.ptr 1 0) ∧ f27 4 = (.ptr 2 0) ∧ h28.box 0 = some [(.int .i64 t_2.Kind_), (.str t_2.S_), (.str t_2.File_), (.int .i64 t_2.Line_), (.bool t_2.Space_), (.bool t_2.First_)] ∧ h28.box 1 = some [(.int .i64 (0 : Int)), (.str []), (.int .i64 (0 : Int)), (.int .i64 (0 : Int)), (.str []), (.int .i64 (0 : Int))] ∧ h28.box 2 = some [(.int .i64 (0 : Int)), (.str []), (.int .i64 (0 : Int)), (.int .i64 (0 : Int)), (.str t_2.File_), (.int .i64 t_2.Line_)]) → (0 < 1 ∧ 1 < 2 ∧ 2 < h28.n) → Z f27 h28) (fun Z hX14 => ?_) ?_
 ·have hr13 := hb
  clear hb
  have hb := hj
  clear hj
  refine wq_def J_lex_wordOf_1.eq_1 ?_
  refine Tw ?_
  refine Tw ?_
  refine bnd2 hb (fun r15 r16 h17 hb => ?_)
  try dsimp only at hb
  refine pq_eq (G_token_One_ok h17) ?_
  refine Tw ?_
  refine bq_if hb rfl (fun c21 hb => ?_) (fun c21 hb => ?_)
  ·have hq := Option.some.inj hb
   subst hq
   try dsimp only at hr13
   have hb := hr13
   have hb := Option.some.inj hb
   obtain ⟨e0, e1⟩ := Prod.mk.inj hb
   subst e0
   subst e1
   have X := And.intro c21 X
   refine Tw ?_
   exact endI rfl
  ·have X := And.intro c21 X
   refine Tw ?_
   refine bq_if hb rfl (fun c24 hb => ?_) (fun c24 hb => ?_)
   ·have hq := Option.some.inj hb
    subst hq
    try dsimp only at hr13
    have hb := hr13
    have hb := Option.some.inj hb
    obtain ⟨e0, e1⟩ := Prod.mk.inj hb
    subst e0
    subst e1
    have X := And.intro c24 X
    refine Tw ?_
    exact endI rfl
   ·have hb := Option.some.inj hb
    subst hb
    have X := And.intro c24 X
    refine Tw ?_
    exact hX14 _ _ rfl Cw Cn
 ·intro f27 h28 ej Y29 Y31
  subst ej
  try dsimp only at hb
  have X := And.intro Y29 X
  refine Tw ?_
  refine bq_if hb rfl (fun c40 hb => ?_) (fun c40 hb => ?_)
  ·have X := And.intro c40 X
   refine Tw ?_
   refine ⟨Ck, ?_⟩
   refine Tw ?_
   refine bnd1 hb (fun r43 h44 hb => ?_)
   refine pq_eq (G_lex_IsKey_ok h44) ?_
   refine Tw ?_
   refine bq_if hb rfl (fun c45 hb => ?_) (fun c45 hb => ?_)
   ·have hb := Option.some.inj hb
    obtain ⟨e0, e1⟩ := Prod.mk.inj hb
    subst e0
    subst e1
    have X := And.intro c45 X
    refine Tw ?_
    exact endI rfl
   ·have hb := Option.some.inj hb
    obtain ⟨e0, e1⟩ := Prod.mk.inj hb
    subst e0
    subst e1
    have X := And.intro c45 X
    refine Tw ?_
    exact endI rfl
  ·have X := And.intro c40 X
   refine Tw ?_
   refine bq_if hb rfl (fun c49 hb => ?_) (fun c49 hb => ?_)
   ·have X := And.intro c49 X
    refine Tw ?_
    refine bnd2 hb (fun r51 r52 h53 hb => ?_)
    try dsimp only at hb
    refine pq_eq (G_lex_number_ok h53) ?_
    refine Tw ?_
    refine ⟨Ck, ?_⟩
    have hb := Option.some.inj hb
    obtain ⟨e0, e1⟩ := Prod.mk.inj hb
    subst e0
    subst e1
    refine Tw ?_
    exact endI rfl
   ·have X := And.intro c49 X
    refine Tw ?_
    refine bq_if hb rfl (fun c57 hb => ?_) (fun c57 hb => ?_)
    ·have X := And.intro c57 X
     refine Tw ?_
     refine bnd2 hb (fun r58 r59 h60 hb => ?_)
     try dsimp only at hb
     refine pq_eq (G_cond_Char_ok h60) ?_
     have hb := Option.some.inj hb
     obtain ⟨e0, e1⟩ := Prod.mk.inj hb
     subst e0
     subst e1
     refine Tw ?_
     exact endI rfl
    ·have X := And.intro c57 X
     refine Tw ?_
     refine bq_if hb rfl (fun c65 hb => ?_) (fun c65 hb => ?_)
     ·have X := And.intro c65 X
      refine Tw ?_
      refine ⟨Ck, ?_⟩
      refine Tw ?_
      refine vq_idxS hb (fun x68 hx68 hb => ?_)
      refine Tw ?_
      refine ⟨Ck, ?_⟩
      have hb := Option.some.inj hb
      obtain ⟨e0, e1⟩ := Prod.mk.inj hb
      subst e0
      subst e1
      refine Tw ?_
      exact endI rfl
     ·have hb := Option.some.inj hb
      obtain ⟨e0, e1⟩ := Prod.mk.inj hb
      subst e0
      subst e1
      have X := And.intro c65 X
      refine Tw ?_
      exact endI rfl
def G_lex_bytesOf_L2 (s_51 : Bytes) : Int → Option ((Int) ⊕ (Int)) := fun n_52 =>
 idx s_51 (0 : Int) >>= fun x74 =>
 if ((x74.toNat : Int) == (92 : Int)) then
  if (decide (n_52 < ((List.length s_51 : Nat) : Int))) then
   if (decide (n_52 < (2 : Int))) then
    some (Sum.inl (IntKind.wrap .i64 (n_52 + (1 : Int))))
   else
    idx s_51 (1 : Int) >>= fun x78 =>
    if (decide ((0 : Int) ≤ (Lib.indexByte ([48, 49, 50, 51, 52, 53, 54, 55] : Bytes) (Int.toNat (x78.toNat : Int)).toUInt8))) then
     if (decide (n_52 < (4 : Int))) then
      idx s_51 n_52 >>= fun x81 =>
      if (decide ((0 : Int) ≤ (Lib.indexByte ([48, 49, 50, 51, 52, 53, 54, 55] : Bytes) (Int.toNat (x81.toNat : Int)).toUInt8))) then
       some (Sum.inl (IntKind.wrap .i64 (n_52 + (1 : Int))))
      else
       idx s_51 (1 : Int) >>= fun x83 =>
       if ((x83.toNat : Int) == (120 : Int)) then
        idx s_51 n_52 >>= fun x85 =>
        if (decide ((0 : Int) ≤ (Lib.indexByte ([48, 49, 50, 51, 52, 53, 54, 55, 56, 57, 97, 98, 99, 100, 101, 102, 65, 66, 67, 68, 69, 70] : Bytes) (Int.toNat (x85.toNat : Int)).toUInt8))) then
         some (Sum.inl (IntKind.wrap .i64 (n_52 + (1 : Int))))
        else
         some (Sum.inr n_52)
       else
        some (Sum.inr n_52)
     else
      idx s_51 (1 : Int) >>= fun x87 =>
      if ((x87.toNat : Int) == (120 : Int)) then
       idx s_51 n_52 >>= fun x89 =>
       if (decide ((0 : Int) ≤ (Lib.indexByte ([48, 49, 50, 51, 52, 53, 54, 55, 56, 57, 97, 98, 99, 100, 101, 102, 65, 66, 67, 68, 69, 70] : Bytes) (Int.toNat (x89.toNat : Int)).toUInt8))) then
        some (Sum.inl (IntKind.wrap .i64 (n_52 + (1 : Int))))
       else
        some (Sum.inr n_52)
      else
       some (Sum.inr n_52)
    else
     idx s_51 (1 : Int) >>= fun x91 =>
     if ((x91.toNat : Int) == (120 : Int)) then
      idx s_51 n_52 >>= fun x93 =>
      if (decide ((0 : Int) ≤ (Lib.indexByte ([48, 49, 50, 51, 52, 53, 54, 55, 56, 57, 97, 98, 99, 100, 101, 102, 65, 66, 67, 68, 69, 70] : Bytes) (Int.toNat (x93.toNat : Int)).toUInt8))) then
       some (Sum.inl (IntKind.wrap .i64 (n_52 + (1 : Int))))
      else
       some (Sum.inr n_52)
     else
      some (Sum.inr n_52)
  else
   some (Sum.inr n_52)
 else
  some (Sum.inr n_52)
theorem G_lex_bytesOf_L2_ok {κ : Kt} {t : Blk κ} {s_51 : Bytes} {v59 : Bytes} {a60 : PV} {o61 : Own} {e62 : Nat} {M63 : List (List PV)} {b58 : Nat} {h54 : Heap} (n_52 : Int) (x : Int) (hx : loopO (G_lex_bytesOf_L2 s_51) n_52 = some x) (hh : h54.bty b58 = T_strings_Builder ∧ h54.box b58 = some [a60, (.slice o61 e62 M63)] ∧ OwnOK h54 o61) (ho : b58 < h54.n) (s64 : SlR 1 R8 o61 e62 v59 M63) (s65 : BdA b58 a60 o61 v59) : ∀ (f53 : Fr), (f53 0 = (.str s_51) ∧ f53 6 = (.ptr b58 0) ∧ f53 7 = (.int .i64 n_52)) → (∀ (f96 : Fr) (n_95 : Int), n_95 = x → (f96 0 = (.str s_51) ∧ f96 6 = (.ptr b58 0) ∧ f96 7 = (.int .i64 n_95)) → κ.B 2 f96 h54) → Lq E (.loop L_lex_bytesOf_2) κ t f53 h54 := by
 revert n_52 x
 refine loop1' ?_
 intro n_52 r hb x hn f53  Y55  ex0
 dsimp only [G_lex_bytesOf_L2] at hb
 refine loop_step L_lex_bytesOf_2.eq_1 ?_
 have X := And.intro Y55 (And.intro hh (s64.len))
 refine Tw ?_
 refine Tw ?_
 refine vq_idxS hb (fun x74 hx74 hb => ?_)
 refine Tw ?_
 refine bq_if hb rfl (fun c75 hb => ?_) (fun c75 hb => ?_)
 ·have X := And.intro c75 X
  refine Tw ?_
  refine bq_if hb rfl (fun c76 hb => ?_) (fun c76 hb => ?_)
  ·have X := And.intro c76 X
   refine Tw ?_
   refine bq_if hb rfl (fun c77 hb => ?_) (fun c77 hb => ?_)
   ·have hb := Option.some.inj hb
    subst hb
    have X := And.intro c77 X
    refine Tw ?_
    exact hn _  Cw ex0
   ·have X := And.intro c77 X
    refine Tw ?_
    refine vq_idxS hb (fun x78 hx78 hb => ?_)
    refine Tw ?_
    refine bq_if hb rfl (fun c79 hb => ?_) (fun c79 hb => ?_)
    ·have X := And.intro c79 X
     refine Tw ?_
     refine bq_if hb rfl (fun c80 hb => ?_) (fun c80 hb => ?_)
     ·have X := And.intro c80 X
      refine Tw ?_
      refine vq_idxS hb (fun x81 hx81 hb => ?_)
      refine Tw ?_
      refine bq_if hb rfl (fun c82 hb => ?_) (fun c82 hb => ?_)
      ·have hb := Option.some.inj hb
       subst hb
       have X := And.intro c82 X
       refine Tw ?_
       exact hn _  Cw ex0
      ·have X := And.intro c82 X
       refine Tw ?_
       refine vq_idxS hb (fun x83 hx83 hb => ?_)
       refine Tw ?_
       refine bq_if hb rfl (fun c84 hb => ?_) (fun c84 hb => ?_)
       ·have X := And.intro c84 X
        refine Tw ?_
        refine vq_idxS hb (fun x85 hx85 hb => ?_)
        refine Tw ?_
        refine bq_if hb rfl (fun c86 hb => ?_) (fun c86 hb => ?_)
        ·have hb := Option.some.inj hb
         subst hb
         have X := And.intro c86 X
         refine Tw ?_
         exact hn _  Cw ex0
        ·have hb := Option.some.inj hb
         subst hb
         have hn : _ = _ := hn
         subst hn
         have X := And.intro c86 X
         refine Tw ?_
         exact ex0 _ n_52 rfl Cw
       ·have hb := Option.some.inj hb
        subst hb
        have hn : _ = _ := hn
        subst hn
        have X := And.intro c84 X
        refine Tw ?_
        exact ex0 _ n_52 rfl Cw
     ·have X := And.intro c80 X
      refine Tw ?_
      refine vq_idxS hb (fun x87 hx87 hb => ?_)
      refine Tw ?_
      refine bq_if hb rfl (fun c88 hb => ?_) (fun c88 hb => ?_)
      ·have X := And.intro c88 X
       refine Tw ?_
       refine vq_idxS hb (fun x89 hx89 hb => ?_)
       refine Tw ?_
       refine bq_if hb rfl (fun c90 hb => ?_) (fun c90 hb => ?_)
       ·have hb := Option.some.inj hb
        subst hb
        have X := And.intro c90 X
        refine Tw ?_
        exact hn _  Cw ex0
       ·have hb := Option.some.inj hb
        subst hb
        have hn : _ = _ := hn
        subst hn
        have X := And.intro c90 X
        refine Tw ?_
        exact ex0 _ n_52 rfl Cw
      ·have hb := Option.some.inj hb
       subst hb
       have hn : _ = _ := hn
       subst hn
       have X := And.intro c88 X
       refine Tw ?_
       exact ex0 _ n_52 rfl Cw
    ·have X := And.intro c79 X
     refine Tw ?_
     refine vq_idxS hb (fun x91 hx91 hb => ?_)
     refine Tw ?_
     refine bq_if hb rfl (fun c92 hb => ?_) (fun c92 hb => ?_)
     ·have X := And.intro c92 X
      refine Tw ?_
      refine vq_idxS hb (fun x93 hx93 hb => ?_)
      refine Tw ?_
      refine bq_if hb rfl (fun c94 hb => ?_) (fun c94 hb => ?_)
      ·have hb := Option.some.inj hb
       subst hb
       have X := And.intro c94 X
       refine Tw ?_
       exact hn _  Cw ex0
      ·have hb := Option.some.inj hb
       subst hb
       have hn : _ = _ := hn
       subst hn
       have X := And.intro c94 X
       refine Tw ?_
       exact ex0 _ n_52 rfl Cw
     ·have hb := Option.some.inj hb
      subst hb
      have hn : _ = _ := hn
      subst hn
      have X := And.intro c92 X
      refine Tw ?_
      exact ex0 _ n_52 rfl Cw
  ·have hb := Option.some.inj hb
   subst hb
   have hn : _ = _ := hn
   subst hn
   have X := And.intro c76 X
   refine Tw ?_
   exact ex0 _ n_52 rfl Cw
 ·have hb := Option.some.inj hb
  subst hb
  have hn : _ = _ := hn
  subst hn
  have X := And.intro c75 X
  refine Tw ?_
  exact ex0 _ n_52 rfl Cw
def G_lex_bytesOf_L1  : Bytes × Bytes → Option ((Bytes × Bytes) ⊕ (Ex2 (Bytes) (Bytes))) := fun (s_29, v36) =>
 if (!(s_29 == ([] : Bytes))) then
  loopO (G_lex_bytesOf_L2 s_29) (1 : Int) >>= fun n_95 =>
  subT s_29 n_95 >>= fun t106 =>
  subF s_29 n_95 >>= fun t107 =>
  idx t106 (0 : Int) >>= fun x108 =>
  if (!((x108.toNat : Int) == (92 : Int))) then
   app 1 v36 t106 >>= fun t110 =>
   some (Sum.inl (t107, t110))
  else
   cat ([39] : Bytes) t106 >>= fun t121 =>
   cat t121 ([39] : Bytes) >>= fun t122 =>
   G_cond_Char t122 >>= fun (r123, r124) =>
   if (!(r124 == (0 : Int))) then
    some (Sum.inr (Ex2.a v36))
   else
    b8 (IntKind.wrap .u8 r123) >>= fun c127 =>
    app 1 v36 [c127] >>= fun t128 =>
    some (Sum.inl (t107, t128))
 else
  some (Sum.inr (Ex2.b v36))
theorem G_lex_bytesOf_L1_ok {κ : Kt} {t : Blk κ} {b35 : Nat} (s_29 : Bytes) (v36 : Bytes) (x : Ex2 (Bytes) (Bytes)) (hx : loopO (G_lex_bytesOf_L1) (s_29, v36) = some x) : ∀ (f30 : Fr) (h31 : Heap) (a37 : PV) (o38 : Own) (e39 : Nat) (M40 : List (List PV)), (f30 0 = (.str s_29) ∧ f30 6 = (.ptr b35 0)) → (h31.bty b35 = T_strings_Builder ∧ h31.box b35 = some [a37, (.slice o38 e39 M40)] ∧ OwnOK h31 o38) → (b35 < h31.n) → SlR 1 R8 o38 e39 v36 M40 → BdA b35 a37 o38 v36 → (∀ (f139 : Fr) (h140 : Heap) (v144 : Bytes) (a145 : PV) (o146 : Own) (e147 : Nat) (M148 : List (List PV)), Ex2.a v144 = x → (f139 2 = (.str ([] : Bytes)) ∧ f139 3 = (.bool false) ∧ h140.bty b35 = T_strings_Builder ∧ h140.box b35 = some [a145, (.slice o146 e147 M148)] ∧ OwnOK h140 o146) → (b35 < h140.n) → SlR 1 R8 o146 e147 v144 M148 → BdA b35 a145 o146 v144 → κ.R f139 h140) → (∀ (f152 : Fr) (h153 : Heap) (v157 : Bytes) (a158 : PV) (o159 : Own) (e160 : Nat) (M161 : List (List PV)), Ex2.b v157 = x → (f152 6 = (.ptr b35 0) ∧ h153.bty b35 = T_strings_Builder ∧ h153.box b35 = some [a158, (.slice o159 e160 M161)] ∧ OwnOK h153 o159) → (b35 < h153.n) → SlR 1 R8 o159 e160 v157 M161 → BdA b35 a158 o159 v157 → κ.B 0 f152 h153) → Lq E (.loop L_lex_bytesOf_1) κ t f30 h31 := by
 revert s_29 v36 x
 refine loop2' ?_
 intro s_29 v36 r hb x hn f30 h31 a37 o38 e39 M40 Y32 Y33 Y34 s41 s42 ex0 ex1
 dsimp only [G_lex_bytesOf_L1] at hb
 refine loop_step L_lex_bytesOf_1.eq_1 ?_
 have X := And.intro Y32 (And.intro Y33 (s41.len))
 refine Tw ?_
 refine Tw ?_
 refine bq_if hb rfl (fun c50 hb => ?_) (fun c50 hb => ?_)
 ·have X := And.intro c50 X
  refine Tw ?_
  refine bnd1 hb (fun q101 h102 hb => ?_)
  refine G_lex_bytesOf_L2_ok (v59 := v36) (a60 := a37) (o61 := o38) (e62 := e39) (M63 := M40) (b58 := b35) _ _ h102 Cw Cn s41 s42 _ Cw ?_
  ·intro f96 n_95 ex Y98
   subst ex
   have X := And.intro Y98 X
   refine Tw ?_
   refine vq_subTs hb (fun t106 ht106 hb => ?_)
   refine Tw ?_
   refine vq_subFs hb (fun t107 ht107 hb => ?_)
   refine Tw ?_
   refine vq_idxS hb (fun x108 hx108 hb => ?_)
   refine Tw ?_
   refine bq_if hb rfl (fun c109 hb => ?_) (fun c109 hb => ?_)
   ·have X := And.intro c109 X
    refine Tw ?_
    refine fq_ws Cw Cw s42 s41 Cw hb (fun t110 o111 M112 h113 ht110 hb s114 s115 O116 F117 z118 => ?_)
    have q119 := F117.n
    try simp only [HN] at q119
    have hb := Option.some.inj hb
    subst hb
    have X := And.intro F117.box (And.intro F117.loop (And.intro F117.bty (And.intro z118 (And.intro O116 X))))
    refine Tw ?_
    exact hn _ _ (.ptr b35 0) o111 1 M112 Cw Cw Cn s114 s115 ex0 ex1
   ·have X := And.intro c109 X
    refine Tw ?_
    refine vq_cat hb (fun t121 ht121 hb => ?_)
    refine Tw ?_
    refine vq_cat hb (fun t122 ht122 hb => ?_)
    refine Tw ?_
    refine bnd2 hb (fun r123 r124 h125 hb => ?_)
    try dsimp only at hb
    refine pq_eq (G_cond_Char_ok h125) ?_
    refine Tw ?_
    refine bq_if hb rfl (fun c126 hb => ?_) (fun c126 hb => ?_)
    ·have hb := Option.some.inj hb
     subst hb
     have hn : _ = _ := hn
     subst hn
     have X := And.intro c126 X
     refine Tw ?_
     exact ex0 _ _ v36 a37 o38 e39 M40 rfl Cw Cn s41 s42
    ·refine b8b1 hb (fun c127 hc127 ec127 hb => ?_)
     have X := And.intro c126 X
     refine Tw ?_
     refine fq_wb Cw Cw s42 s41 Cw hc127 hb (fun t128 o129 M130 h131 ht128 hb s132 s133 O134 F135 z136 => ?_)
     have q137 := F135.n
     try simp only [HN] at q137
     have hb := Option.some.inj hb
     subst hb
     have X := And.intro F135.box (And.intro F135.loop (And.intro F135.bty (And.intro z136 (And.intro O134 X))))
     refine Tw ?_
     exact hn _ _ (.ptr b35 0) o129 1 M130 Cw Cw Cn s132 s133 ex0 ex1
 ·have hb := Option.some.inj hb
  subst hb
  have hn : _ = _ := hn
  subst hn
  have X := And.intro c50 X
  refine Tw ?_
  exact ex1 _ _ v36 a37 o38 e39 M40 rfl Cw Cn s41 s42
def G_lex_bytesOf (s_2 : Bytes) : Option (Bytes × Bool) :=
 G_token_One s_2 >>= fun (r5, r6) =>
 (
  if (!r6) then
   some (Ex2.a (([] : Bytes), false))
  else
   if (!(r5.Kind_ == (4 : Int))) then
    some (Ex2.a (([] : Bytes), false))
   else
    some (Ex2.b ())
 ) >>= fun j24 => match j24 with
  | .a q => some q
  | .b () =>
   subB s_2 (1 : Int) (IntKind.wrap .i64 (((List.length s_2 : Nat) : Int) - (1 : Int))) >>= fun t28 =>
   loopO (G_lex_bytesOf_L1) (t28, ([] : Bytes)) >>= fun q165 => match q165 with
    | .a v144 =>
     some (([] : Bytes), false)
    | .b v157 =>
     some (v157, true)
theorem G_lex_bytesOf_ok {s_2 : Bytes} {r3 : Bytes} {r4 : Bool} (hx : G_lex_bytesOf s_2 = some (r3, r4)) : PureE E 56 [(.str s_2)] (fun v => v = (.tuple [(.str r3), (.bool r4)])) := by
 refine pureE_ok fn_lex_bytesOf rfl ?_
 have hb := hx
 dsimp only [G_lex_bytesOf] at hb
 have X := True.intro
 refine Tw ?_
 refine bnd2 hb (fun r5 r6 h7 hb => ?_)
 try dsimp only at hb
 refine pq_eq (G_token_One_ok h7) ?_
 refine Tw ?_
 refine bnd1 hb (fun j24 hj hb => ?_)
 refine wq_join (fun Z => ∀ (f18 : Fr) (h19 : Heap), Ex2.b () = j24 → (f18 0 = (.str s_2)) → (True) → Z f18 h19) (fun Z hX13 => ?_) ?_
 ·have hr12 := hb
  clear hb
  have hb := hj
  clear hj
  refine wq_def J_lex_bytesOf_1.eq_1 ?_
  refine Tw ?_
  refine Tw ?_
  refine bq_if hb rfl (fun c14 hb => ?_) (fun c14 hb => ?_)
  ·have hq := Option.some.inj hb
   subst hq
   try dsimp only at hr12
   have hb := hr12
   have hb := Option.some.inj hb
   obtain ⟨e0, e1⟩ := Prod.mk.inj hb
   subst e0
   subst e1
   have X := And.intro c14 X
   refine Tw ?_
   exact endI rfl
  ·have X := And.intro c14 X
   refine Tw ?_
   refine bq_if hb rfl (fun c16 hb => ?_) (fun c16 hb => ?_)
   ·have hq := Option.some.inj hb
    subst hq
    try dsimp only at hr12
    have hb := hr12
    have hb := Option.some.inj hb
    obtain ⟨e0, e1⟩ := Prod.mk.inj hb
    subst e0
    subst e1
    have X := And.intro c16 X
    refine Tw ?_
    exact endI rfl
   ·have hb := Option.some.inj hb
    subst hb
    have X := And.intro c16 X
    refine Tw ?_
    exact hX13 _ _ rfl Cw trivial
 ·intro f18 h19 ej Y20 Y22
  subst ej
  try dsimp only at hb
  have X := And.intro Y20 X
  refine Tw ?_
  refine vq_subBs hb (fun t28 ht28 hb => ?_)
  refine Tw ?_
  refine bnd1 hb (fun q165 h166 hb => ?_)
  refine G_lex_bytesOf_L1_ok (b35 := h19.n) _ _ _ h166 _ _ .nilptr .nil 0 [] Cw Cw Cn slr_nil bda_nil ?_ ?_
  ·intro f139 h140 v144 a145 o146 e147 M148 ex Y141 Y143 s149 s150
   subst ex
   try dsimp only at hb
   have hb := Option.some.inj hb
   obtain ⟨e0, e1⟩ := Prod.mk.inj hb
   subst e0
   subst e1
   have X := And.intro Y141 (And.intro s149.len X)
   refine Tw ?_
   exact endI rfl
  ·intro f152 h153 v157 a158 o159 e160 M161 ex Y154 Y156 s162 s163
   subst ex
   try dsimp only at hb
   have X := And.intro Y154 (And.intro s162.len X)
   refine Tw ?_
   refine fq_bs Cw s163 s162 Cw ?_
   have hb := Option.some.inj hb
   obtain ⟨e0, e1⟩ := Prod.mk.inj hb
   subst e0
   subst e1
   refine Tw ?_
   exact endI rfl
def G_lex_Words_L2  : List T_api_Tok × Bytes → Option ((List T_api_Tok × Bytes) ⊕ (Ex2 (List T_api_Tok × Bytes) (Bytes × Int × List T_api_Tok × Bytes))) := fun (v122, v136) =>
 (
  if (decide ((0 : Int) < ((List.length v122 : Nat) : Int))) then
   idx v122 (0 : Int) >>= fun x162 =>
   if (x162.Kind_ == (4 : Int)) then
    some (Ex2.b ())
   else
    some (Ex2.a (Sum.inr (Ex2.a (v122, v136))))
  else
   some (Ex2.a (Sum.inr (Ex2.a (v122, v136))))
 ) >>= fun j172 => match j172 with
  | .a q => some q
  | .b () =>
   idx v122 (0 : Int) >>= fun x177 =>
   G_lex_bytesOf x177.S_ >>= fun (r179, r180) =>
   if (!r180) then
    idx v122 (0 : Int) >>= fun x183 =>
    idx v122 (0 : Int) >>= fun x185 =>
    some (Sum.inr (Ex2.b (x183.File_, x185.Line_, v122, v136)))
   else
    cat v136 r179 >>= fun t194 =>
    subF v122 (1 : Int) >>= fun t196 =>
    some (Sum.inl (t196, t194))
theorem G_lex_Words_L2_ok {κ : Kt} {t : Blk κ} {v112 : List T_api_Word} {v118 : Bool} {v119 : Bytes} {v120 : Int} {v128 : Int} {v129 : Bytes} {v130 : Bytes} {v131 : Int} {v132 : Bool} {v133 : Bool} {v135 : Int} {v137 : Int} {v138 : Int} {v139 : Bytes} {v140 : Int} {o113 : Own} {e114 : Nat} {M115 : List (List PV)} {b111 : Nat} {b117 : Nat} {b121 : Nat} {b127 : Nat} {b134 : Nat} {l141 : Nat} {g142 : Fr} (v122 : List T_api_Tok) (v136 : Bytes) (x : Ex2 (List T_api_Tok × Bytes) (Bytes × Int × List T_api_Tok × Bytes)) (hx : loopO (G_lex_Words_L2) (v122, v136) = some x) (s116 : SlR 6 T_api_Word.R o113 e114 v112 M115) : ∀ (f106 : Fr) (h107 : Heap) (o123 : Own) (e124 : Nat) (M125 : List (List PV)), (f106 0 = (.yield l141) ∧ f106 1 = (.ptr b121 0) ∧ f106 3 = (.ptr b127 0) ∧ f106 6 = (.ptr b134 0)) → (h107.box b111 = some [(.slice o113 e114 M115)] ∧ h107.box b117 = some [(.bool v118), (.str v119), (.int .i64 v120)] ∧ h107.box b121 = some [(.slice o123 e124 M125)] ∧ h107.box b127 = some [(.int .i64 v128), (.str v129), (.str v130), (.int .i64 v131), (.bool v132), (.bool v133)] ∧ h107.box b134 = some [(.int .i64 v135), (.str v136), (.int .i64 v137), (.int .i64 v138), (.str v139), (.int .i64 v140)] ∧ h107.loop l141 = some ⟨.ready, none, g142, [12, 13], A_lex_Words_1, Y_lex_Words_1⟩ ∧ g142 6 = (.ptr b111 0) ∧ g142 7 = (.ptr b117 0) ∧ OwnOK h107 o113) → (b111 < b117 ∧ b117 < b121 ∧ b121 < l141 ∧ l141 < b127 ∧ b127 < b134 ∧ b134 < h107.n) → SlR 6 T_api_Tok.R o123 e124 v122 M125 → (∀ (f201 : Fr) (h202 : Heap) (v206 : List T_api_Tok) (v211 : Bytes) (o207 : Own) (e208 : Nat) (M209 : List (List PV)), Ex2.a (v206, v211) = x → (f201 0 = (.yield l141) ∧ f201 1 = (.ptr b121 0) ∧ f201 3 = (.ptr b127 0) ∧ f201 6 = (.ptr b134 0) ∧ h202.box b111 = some [(.slice o113 e114 M115)] ∧ h202.box b117 = some [(.bool v118), (.str v119), (.int .i64 v120)] ∧ h202.box b121 = some [(.slice o207 e208 M209)] ∧ h202.box b127 = some [(.int .i64 v128), (.str v129), (.str v130), (.int .i64 v131), (.bool v132), (.bool v133)] ∧ h202.box b134 = some [(.int .i64 v135), (.str v211), (.int .i64 v137), (.int .i64 v138), (.str v139), (.int .i64 v140)] ∧ h202.loop l141 = some ⟨.ready, none, g142, [12, 13], A_lex_Words_1, Y_lex_Words_1⟩ ∧ OwnOK h202 o113) → (b111 < b117 ∧ b117 < b121 ∧ b121 < l141 ∧ l141 < b127 ∧ b127 < b134 ∧ b134 < h202.n) → SlR 6 T_api_Tok.R o207 e208 v206 M209 → κ.B 2 f201 h202) → (∀ (f213 : Fr) (h214 : Heap) (v218 : Bytes) (v219 : Int) (v220 : List T_api_Tok) (v225 : Bytes) (o221 : Own) (e222 : Nat) (M223 : List (List PV)), Ex2.b (v218, v219, v220, v225) = x → (h214.box b111 = some [(.slice o113 e114 M115)] ∧ h214.box b117 = some [(.bool true), (.str v218), (.int .i64 v219)] ∧ h214.box b121 = some [(.slice o221 e222 M223)] ∧ h214.box b127 = some [(.int .i64 v128), (.str v129), (.str v130), (.int .i64 v131), (.bool v132), (.bool v133)] ∧ h214.box b134 = some [(.int .i64 v135), (.str v225), (.int .i64 v137), (.int .i64 v138), (.str v139), (.int .i64 v140)] ∧ h214.loop l141 = some ⟨.done, (some (.exit 0)), g142, [12, 13], A_lex_Words_1, Y_lex_Words_1⟩ ∧ OwnOK h214 o113) → (b111 < b117 ∧ b117 < b121 ∧ b121 < l141 ∧ l141 < b127 ∧ b127 < b134 ∧ b134 < h214.n) → SlR 6 T_api_Tok.R o221 e222 v220 M223 → κ.R f213 h214) → Lq E (.loop L_lex_words_1_2) κ t f106 h107 := by
 revert v122 v136 x
 refine loop2' ?_
 intro v122 v136 r hb x hn f106 h107 o123 e124 M125 Y108 Y109 Y110 s126 ex0 ex1
 dsimp only [G_lex_Words_L2] at hb
 refine loop_step L_lex_words_1_2.eq_1 ?_
 have X := And.intro Y108 (And.intro Y109 (And.intro s116.len (s126.len)))
 refine Tw ?_
 refine Tw ?_
 refine bnd1 hb (fun j172 hj hb => ?_)
 refine wq_joinF (fun Z => ∀ (f167 : Fr), Ex2.b () = j172 → (f167 0 = (.yield l141) ∧ f167 1 = (.ptr b121 0) ∧ f167 3 = (.ptr b127 0) ∧ f167 6 = (.ptr b134 0)) → Z f167) (fun Z hX160 => ?_) ?_
 ·have hr159 := hb
  clear hb
  have hb := hj
  clear hj
  refine wq_def J_lex_words_1_1.eq_1 ?_
  refine Tw ?_
  refine Tw ?_
  refine bq_if hb rfl (fun c161 hb => ?_) (fun c161 hb => ?_)
  ·have X := And.intro c161 X
   refine Tw ?_
   refine vq_iaddr s126 hb (fun x162 cs163 hx162 hb hcs163 => ?_)
   cases (show cs163 = [(.int .i64 x162.Kind_), (.str x162.S_), (.str x162.File_), (.int .i64 x162.Line_), (.bool x162.Space_), (.bool x162.First_)] from hcs163)
   refine Tw ?_
   refine bq_if hb rfl (fun c164 hb => ?_) (fun c164 hb => ?_)
   ·have hb := Option.some.inj hb
    subst hb
    have X := And.intro c164 X
    refine Tw ?_
    exact hX160 _ rfl Cw
   ·have hq := Option.some.inj hb
    subst hq
    try dsimp only at hr159
    have hb := hr159
    have hb := Option.some.inj hb
    subst hb
    have hn : _ = _ := hn
    subst hn
    have X := And.intro c164 X
    refine Tw ?_
    exact ex0 _ _ v122 v136 o123 e124 M125 rfl Cw Cn s126
  ·have hq := Option.some.inj hb
   subst hq
   try dsimp only at hr159
   have hb := hr159
   have hb := Option.some.inj hb
   subst hb
   have hn : _ = _ := hn
   subst hn
   have X := And.intro c161 X
   refine Tw ?_
   exact ex0 _ _ v122 v136 o123 e124 M125 rfl Cw Cn s126
 ·intro f167 ej Y169
  subst ej
  try dsimp only at hb
  have X := And.intro Y169 X
  refine Tw ?_
  refine vq_iaddr s126 hb (fun x177 cs178 hx177 hb hcs178 => ?_)
  cases (show cs178 = [(.int .i64 x177.Kind_), (.str x177.S_), (.str x177.File_), (.int .i64 x177.Line_), (.bool x177.Space_), (.bool x177.First_)] from hcs178)
  refine Tw ?_
  refine bnd2 hb (fun r179 r180 h181 hb => ?_)
  try dsimp only at hb
  refine pq_eq (G_lex_bytesOf_ok h181) ?_
  refine Tw ?_
  refine bq_if hb rfl (fun c182 hb => ?_) (fun c182 hb => ?_)
  ·have X := And.intro c182 X
   refine Tw ?_
   refine vq_iaddr s126 hb (fun x183 cs184 hx183 hb hcs184 => ?_)
   cases (show cs184 = [(.int .i64 x183.Kind_), (.str x183.S_), (.str x183.File_), (.int .i64 x183.Line_), (.bool x183.Space_), (.bool x183.First_)] from hcs184)
   refine Tw ?_
   refine vq_iaddr s126 hb (fun x185 cs186 hx185 hb hcs186 => ?_)
   cases (show cs186 = [(.int .i64 x185.Kind_), (.str x185.S_), (.str x185.File_), (.int .i64 x185.Line_), (.bool x185.Space_), (.bool x185.First_)] from hcs186)
   refine Tw ?_
   refine fq_yield (tm := g142) (ps := [12, 13]) (as := A_lex_Words_1) (bd := Y_lex_Words_1) Cw (by rfl) ?_
   refine wq_def A_lex_Words_1.eq_1 ?_
   refine Tw ?_
   refine Tw ?_
   refine wq_def Y_lex_Words_1.eq_1 ?_
   refine Tw ?_
   refine Tw ?_
   have hb := Option.some.inj hb
   subst hb
   have hn : _ = _ := hn
   subst hn
   refine Tw ?_
   exact ex1 _ _ x183.File_ x185.Line_ v122 v136 o123 e124 M125 rfl Cw Cn s126
  ·have X := And.intro c182 X
   refine Tw ?_
   refine vq_cat hb (fun t194 ht194 hb => ?_)
   refine Tw ?_
   refine vq_subF s126 hb (fun t196 o197 M198 ht196 hb s199 => ?_)
   have hb := Option.some.inj hb
   subst hb
   have X := And.intro s199.len X
   refine Tw ?_
   exact hn _ _ o197 e124 M198 Cw Cw Cn s199 ex0 ex1
def G_lex_Words_L1  : List T_api_Word × List T_api_Tok → Option ((List T_api_Word × List T_api_Tok) ⊕ (Ex2 (List T_api_Word × Bytes × Int × List T_api_Tok) (List T_api_Word × List T_api_Tok))) := fun (v35, v45) =>
 if (decide ((0 : Int) < ((List.length v45 : Nat) : Int))) then
  idx v45 (0 : Int) >>= fun x64 =>
  if (!(x64.Kind_ == (4 : Int))) then
   subF v45 (1 : Int) >>= fun t70 =>
   G_lex_wordOf x64 >>= fun (r75, r76) =>
   if (!r76) then
    some (Sum.inr (Ex2.a (v35, x64.File_, x64.Line_, t70)))
   else
    app 64 v35 [r75] >>= fun t92 =>
    some (Sum.inl (t92, t70))
  else
   loopO (G_lex_Words_L2) (v45, ([] : Bytes)) >>= fun q227 => match q227 with
    | .a (v206, v211) =>
     if (decide ((4096 : Int) < ((List.length v211 : Nat) : Int))) then
      some (Sum.inr (Ex2.a (v35, x64.File_, x64.Line_, v206)))
     else
      app 64 v35 [(T_api_Word.mk (4 : Int) v211 (0 : Int) (0 : Int) x64.File_ x64.Line_)] >>= fun t250 =>
      some (Sum.inl (t250, v206))
    | .b (v218, v219, v220, v225) =>
     some (Sum.inr (Ex2.a (v35, v218, v219, v220)))
 else
  some (Sum.inr (Ex2.b (v35, v45)))
theorem G_lex_Words_L1_ok {κ : Kt} {t : Blk κ} {v41 : Bool} {v42 : Bytes} {v43 : Int} {b34 : Nat} {b40 : Nat} {b44 : Nat} {l50 : Nat} {g51 : Fr} (v35 : List T_api_Word) (v45 : List T_api_Tok) (x : Ex2 (List T_api_Word × Bytes × Int × List T_api_Tok) (List T_api_Word × List T_api_Tok)) (hx : loopO (G_lex_Words_L1) (v35, v45) = some x) : ∀ (f29 : Fr) (h30 : Heap) (o36 : Own) (e37 : Nat) (M38 : List (List PV)) (o46 : Own) (e47 : Nat) (M48 : List (List PV)), (f29 0 = (.yield l50) ∧ f29 1 = (.ptr b44 0)) → (h30.box b34 = some [(.slice o36 e37 M38)] ∧ h30.box b40 = some [(.bool v41), (.str v42), (.int .i64 v43)] ∧ h30.box b44 = some [(.slice o46 e47 M48)] ∧ h30.loop l50 = some ⟨.ready, none, g51, [12, 13], A_lex_Words_1, Y_lex_Words_1⟩ ∧ g51 6 = (.ptr b34 0) ∧ g51 7 = (.ptr b40 0) ∧ OwnOK h30 o36) → (b34 < b40 ∧ b40 < b44 ∧ b44 < l50 ∧ l50 < h30.n) → SlR 6 T_api_Word.R o36 e37 v35 M38 → SlR 6 T_api_Tok.R o46 e47 v45 M48 → (∀ (f269 : Fr) (h270 : Heap) (v274 : List T_api_Word) (v279 : Bytes) (v280 : Int) (v281 : List T_api_Tok) (o275 : Own) (e276 : Nat) (M277 : List (List PV)) (o282 : Own) (e283 : Nat) (M284 : List (List PV)), Ex2.a (v274, v279, v280, v281) = x → (h270.box b34 = some [(.slice o275 e276 M277)] ∧ h270.box b40 = some [(.bool true), (.str v279), (.int .i64 v280)] ∧ h270.box b44 = some [(.slice o282 e283 M284)] ∧ h270.loop l50 = some ⟨.done, (some (.exit 0)), g51, [12, 13], A_lex_Words_1, Y_lex_Words_1⟩ ∧ OwnOK h270 o275) → (b34 < b40 ∧ b40 < b44 ∧ b44 < l50 ∧ l50 < h270.n) → SlR 6 T_api_Word.R o275 e276 v274 M277 → SlR 6 T_api_Tok.R o282 e283 v281 M284 → κ.R f269 h270) → (∀ (f287 : Fr) (h288 : Heap) (v292 : List T_api_Word) (v297 : List T_api_Tok) (o293 : Own) (e294 : Nat) (M295 : List (List PV)) (o298 : Own) (e299 : Nat) (M300 : List (List PV)), Ex2.b (v292, v297) = x → (h288.box b34 = some [(.slice o293 e294 M295)] ∧ h288.box b40 = some [(.bool v41), (.str v42), (.int .i64 v43)] ∧ h288.box b44 = some [(.slice o298 e299 M300)] ∧ h288.loop l50 = some ⟨.ready, none, g51, [12, 13], A_lex_Words_1, Y_lex_Words_1⟩ ∧ OwnOK h288 o293) → (b34 < b40 ∧ b40 < b44 ∧ b44 < l50 ∧ l50 < h288.n) → SlR 6 T_api_Word.R o293 e294 v292 M295 → SlR 6 T_api_Tok.R o298 e299 v297 M300 → κ.B 0 f287 h288) → Lq E (.loop L_lex_words_1_1) κ t f29 h30 := by
 revert v35 v45 x
 refine loop2' ?_
 intro v35 v45 r hb x hn f29 h30 o36 e37 M38 o46 e47 M48 Y31 Y32 Y33 s39 s49 ex0 ex1
 dsimp only [G_lex_Words_L1] at hb
 refine loop_step L_lex_words_1_1.eq_1 ?_
 have X := And.intro Y31 (And.intro Y32 (And.intro s39.len (s49.len)))
 refine Tw ?_
 refine Tw ?_
 refine bq_if hb rfl (fun c63 hb => ?_) (fun c63 hb => ?_)
 ·have X := And.intro c63 X
  refine Tw ?_
  refine vq_iaddr s49 hb (fun x64 cs65 hx64 hb hcs65 => ?_)
  cases (show cs65 = [(.int .i64 x64.Kind_), (.str x64.S_), (.str x64.File_), (.int .i64 x64.Line_), (.bool x64.Space_), (.bool x64.First_)] from hcs65)
  refine Tw ?_
  refine bq_if hb rfl (fun c69 hb => ?_) (fun c69 hb => ?_)
  ·have X := And.intro c69 X
   refine Tw ?_
   refine vq_subF s49 hb (fun t70 o71 M72 ht70 hb s73 => ?_)
   have X := And.intro s73.len X
   refine Tw ?_
   refine bnd2 hb (fun r75 r76 h77 hb => ?_)
   try dsimp only at hb
   refine pq_eq (G_lex_wordOf_ok h77) ?_
   refine Tw ?_
   refine fq_yield (tm := g51) (ps := [12, 13]) (as := A_lex_Words_1) (bd := Y_lex_Words_1) Cw (by rfl) ?_
   refine wq_def A_lex_Words_1.eq_1 ?_
   refine Tw ?_
   refine Tw ?_
   refine wq_def Y_lex_Words_1.eq_1 ?_
   refine Tw ?_
   refine Tw ?_
   refine bq_if hb rfl (fun c88 hb => ?_) (fun c88 hb => ?_)
   ·have X := And.intro c88 X
    refine Tw ?_
    have hb := Option.some.inj hb
    subst hb
    have hn : _ = _ := hn
    subst hn
    refine Tw ?_
    exact ex0 _ _ v35 x64.File_ x64.Line_ t70 o36 e37 M38 o71 e47 M72 rfl Cw Cn s39 s73
   ·have X := And.intro c88 X
    refine Tw ?_
    refine vq_bsl rfl ?_
    refine Tw ?_
    refine vq_app s39 Cw (show SlR 6 T_api_Word.R (.own (h30.n + 1 + 1 + 1 + 1) false) 6 ([r75] : List T_api_Word) [[(.int .i64 r75.Kind_), (.str r75.S_), (.int .i64 r75.V_), (.int .i64 r75.T_), (.str r75.File_), (.int .i64 r75.Line_)]] from (slr_cons (by simp) rfl (slr_0 (R := T_api_Word.R)))) hb (fun t92 o93 M94 h95 ht92 hb s96 O97 F98 => ?_)
    have q99 := F98.n
    try simp only [HN] at q99
    have X := And.intro F98.box (And.intro F98.loop (And.intro F98.bty (And.intro O97 (And.intro s96.len X))))
    refine Tw ?_
    have hb := Option.some.inj hb
    subst hb
    refine Tw ?_
    exact hn _ _ o93 6 M94 o71 e47 M72 Cw Cw Cn s96 s73 ex0 ex1
  ·have X := And.intro c69 X
   refine Tw ?_
   refine bnd1 hb (fun q227 h228 hb => ?_)
   refine G_lex_Words_L2_ok (v112 := v35) (o113 := o36) (e114 := e37) (M115 := M38) (v118 := v41) (v119 := v42) (v120 := v43) (v128 := x64.Kind_) (v129 := x64.S_) (v130 := x64.File_) (v131 := x64.Line_) (v132 := x64.Space_) (v133 := x64.First_) (v135 := (4 : Int)) (v137 := (0 : Int)) (v138 := (0 : Int)) (v139 := x64.File_) (v140 := x64.Line_) (b111 := b34) (b117 := b40) (b121 := b44) (b127 := h30.n) (b134 := (h30.n + 1)) (l141 := l50) (g142 := g51) _ _ _ h228 s39 _ _ o46 e47 M48 Cw Cw Cn s49 ?_ ?_
   ·intro f201 h202 v206 v211 o207 e208 M209 ex Y203 Y205 s210
    subst ex
    try dsimp only at hb
    have X := And.intro Y203 (And.intro s210.len X)
    refine Tw ?_
    refine fq_yield (tm := g51) (ps := [12, 13]) (as := A_lex_Words_1) (bd := Y_lex_Words_1) Cw (by rfl) ?_
    refine wq_def A_lex_Words_1.eq_1 ?_
    refine Tw ?_
    refine Tw ?_
    refine wq_def Y_lex_Words_1.eq_1 ?_
    refine Tw ?_
    refine Tw ?_
    refine bq_if hb rfl (fun c246 hb => ?_) (fun c246 hb => ?_)
    ·have X := And.intro c246 X
     refine Tw ?_
     have hb := Option.some.inj hb
     subst hb
     have hn : _ = _ := hn
     subst hn
     refine Tw ?_
     exact ex0 _ _ v35 x64.File_ x64.Line_ v206 o36 e37 M38 o207 e208 M209 rfl Cw Cn s39 s210
    ·have X := And.intro c246 X
     refine Tw ?_
     refine vq_bsl rfl ?_
     refine Tw ?_
     refine vq_app s39 Cw (show SlR 6 T_api_Word.R (.own (h202.n + 1 + 1) false) 6 ([(T_api_Word.mk (4 : Int) v211 (0 : Int) (0 : Int) x64.File_ x64.Line_)] : List T_api_Word) [[(.int .i64 (4 : Int)), (.str v211), (.int .i64 (0 : Int)), (.int .i64 (0 : Int)), (.str x64.File_), (.int .i64 x64.Line_)]] from (slr_cons (by simp) rfl (slr_0 (R := T_api_Word.R)))) hb (fun t250 o251 M252 h253 ht250 hb s254 O255 F256 => ?_)
     have q257 := F256.n
     try simp only [HN] at q257
     have X := And.intro F256.box (And.intro F256.loop (And.intro F256.bty (And.intro O255 (And.intro s254.len X))))
     refine Tw ?_
     have hb := Option.some.inj hb
     subst hb
     refine Tw ?_
     exact hn _ _ o251 6 M252 o207 e208 M209 Cw Cw Cn s254 s210 ex0 ex1
   ·intro f213 h214 v218 v219 v220 v225 o221 e222 M223 ex Y215 Y217 s224
    subst ex
    try dsimp only at hb
    have hb := Option.some.inj hb
    subst hb
    have hn : _ = _ := hn
    subst hn
    have X := And.intro Y215 (And.intro s224.len X)
    refine Tw ?_
    exact ex0 _ _ v35 v218 v219 v220 o36 e37 M38 o221 e222 M223 rfl Cw Cn s39 s224
 ·have hb := Option.some.inj hb
  subst hb
  have hn : _ = _ := hn
  subst hn
  have X := And.intro c63 X
  refine Tw ?_
  exact ex1 _ _ v35 v45 o36 e37 M38 o46 e47 M48 rfl Cw Cn s39 s49
end Go.Proofs.YtmngkcpobmhnoaaGreatDoor.Sim
