/- Printed functions, continued. -/
import Derived.Test.YtmngkcpobmhnoaaGreatDoorKG5
set_option linter.all false
set_option maxHeartbeats 4000000
set_option maxRecDepth 20000
namespace Go.Proofs.YtmngkcpobmhnoaaGreatDoor.Sim
def G_burinref05_Number (s_2 : Bytes) : Option (Int × Bool × Int) :=
 if (s_2 == ([] : Bytes)) then
  some ((0 : Int), false, (50 : Int))
 else
  G_burinref05_base s_2 >>= fun (r7, r8) =>
  loopO (G_burinref05_Number_L1 s_2 r7) (r8, (0 : Int), (0 : Int)) >>= fun q66 => match q66 with
   | .a (at_53, v_54, n_55) =>
    subF s_2 at_53 >>= fun t73 =>
    G_burinref05_suffix t73 >>= fun (r74, r75) =>
    if (!r74) then
     some ((0 : Int), false, (50 : Int))
    else
     if (n_55 == (0 : Int)) then
      some ((0 : Int), false, (50 : Int))
     else
      if r75 then
       some (v_54, true, (0 : Int))
      else
       if (decide ((9223372036854775808 : Int) ≤ v_54)) then
        some (v_54, (!(r7 == (10 : Int))), (0 : Int))
       else
        some (v_54, false, (0 : Int))
   | .b _ =>
    some ((0 : Int), false, (50 : Int))
theorem G_burinref05_Number_ok {s_2 : Bytes} {r3 : Int} {r4 : Bool} {r5 : Int} (hx : G_burinref05_Number s_2 = some (r3, r4, r5)) : PureE E 84 [(.str s_2)] (fun v => v = (.tuple [(.int .u64 r3), (.bool r4), (.int .i64 r5)])) := by
 refine pureE_ok fn_burinref05_Number rfl ?_
 have hb := hx
 dsimp only [G_burinref05_Number] at hb
 have X := True.intro
 refine Tw ?_
 refine bq_if hb rfl (fun c6 hb => ?_) (fun c6 hb => ?_)
 ·have hb := Option.some.inj hb
  obtain ⟨e0, hb⟩ := Prod.mk.inj hb
  obtain ⟨e1, e2⟩ := Prod.mk.inj hb
  subst e0
  subst e1
  subst e2
  have X := And.intro c6 X
  refine Tw ?_
  exact endI rfl
 ·have X := And.intro c6 X
  refine Tw ?_
  refine bnd2 hb (fun r7 r8 h9 hb => ?_)
  try dsimp only at hb
  refine pq_eq (G_burinref05_base_ok h9) ?_
  refine Tw ?_
  refine bnd1 hb (fun q66 h67 hb => ?_)
  refine G_burinref05_Number_L1_ok _ _ _ _ h67 trivial trivial _ Cw ?_ ?_
  ·intro f56 at_53 v_54 n_55 ex Y58
   subst ex
   try dsimp only at hb
   have X := And.intro Y58 X
   refine Tw ?_
   refine vq_subFs hb (fun t73 ht73 hb => ?_)
   refine Tw ?_
   refine bnd2 hb (fun r74 r75 h76 hb => ?_)
   try dsimp only at hb
   refine pq_eq (G_burinref05_suffix_ok h76) ?_
   refine Tw ?_
   refine bq_if hb rfl (fun c77 hb => ?_) (fun c77 hb => ?_)
   ·have hb := Option.some.inj hb
    obtain ⟨e0, hb⟩ := Prod.mk.inj hb
    obtain ⟨e1, e2⟩ := Prod.mk.inj hb
    subst e0
    subst e1
    subst e2
    have X := And.intro c77 X
    refine Tw ?_
    exact endI rfl
   ·have X := And.intro c77 X
    refine Tw ?_
    refine bq_if hb rfl (fun c78 hb => ?_) (fun c78 hb => ?_)
    ·have hb := Option.some.inj hb
     obtain ⟨e0, hb⟩ := Prod.mk.inj hb
     obtain ⟨e1, e2⟩ := Prod.mk.inj hb
     subst e0
     subst e1
     subst e2
     have X := And.intro c78 X
     refine Tw ?_
     exact endI rfl
    ·have X := And.intro c78 X
     refine Tw ?_
     refine bq_if hb rfl (fun c79 hb => ?_) (fun c79 hb => ?_)
     ·have hb := Option.some.inj hb
      obtain ⟨e0, hb⟩ := Prod.mk.inj hb
      obtain ⟨e1, e2⟩ := Prod.mk.inj hb
      subst e0
      subst e1
      subst e2
      have X := And.intro c79 X
      refine Tw ?_
      exact endI rfl
     ·have X := And.intro c79 X
      refine Tw ?_
      refine bq_if hb rfl (fun c80 hb => ?_) (fun c80 hb => ?_)
      ·have hb := Option.some.inj hb
       obtain ⟨e0, hb⟩ := Prod.mk.inj hb
       obtain ⟨e1, e2⟩ := Prod.mk.inj hb
       subst e0
       subst e1
       subst e2
       have X := And.intro c80 X
       refine Tw ?_
       exact endI rfl
      ·have hb := Option.some.inj hb
       obtain ⟨e0, hb⟩ := Prod.mk.inj hb
       obtain ⟨e1, e2⟩ := Prod.mk.inj hb
       subst e0
       subst e1
       subst e2
       have X := And.intro c80 X
       refine Tw ?_
       exact endI rfl
  ·intro f61 ex Y63
   subst ex
   try dsimp only at hb
   have hb := Option.some.inj hb
   obtain ⟨e0, hb⟩ := Prod.mk.inj hb
   obtain ⟨e1, e2⟩ := Prod.mk.inj hb
   subst e0
   subst e1
   subst e2
   have X := And.intro Y63 X
   refine Tw ?_
   exact endI rfl
def G_burinref07_has_L1 (s_6 : Bytes) (a_7 : Int) (b_8 : Int) : Int → Option ((Int) ⊕ (Ex2 (Unit) (Unit))) := fun i_9 =>
 if (decide (i_9 < ((List.length s_6 : Nat) : Int))) then
  idx s_6 i_9 >>= fun x22 =>
  if ((x22.toNat : Int) == a_7) then
   some (Sum.inr (Ex2.a ()))
  else
   idx s_6 i_9 >>= fun x24 =>
   if ((x24.toNat : Int) == b_8) then
    some (Sum.inr (Ex2.a ()))
   else
    some (Sum.inl (IntKind.wrap .i64 (i_9 + (1 : Int))))
 else
  some (Sum.inr (Ex2.b ()))
theorem G_burinref07_has_L1_ok {κ : Kt} {t : Blk κ} {s_6 : Bytes} {a_7 : Int} {b_8 : Int} {h11 : Heap} (i_9 : Int) (x : Ex2 (Unit) (Unit)) (hx : loopO (G_burinref07_has_L1 s_6 a_7 b_8) i_9 = some x) (hh : True) (ho : True) : ∀ (f10 : Fr), (f10 0 = (.str s_6) ∧ f10 1 = (.int .u8 a_7) ∧ f10 2 = (.int .u8 b_8) ∧ f10 7 = (.int .i64 i_9)) → (∀ (f26 : Fr), Ex2.a () = x → (f26 6 = (.bool true)) → κ.R f26 h11) → (∀ (f31 : Fr), Ex2.b () = x → (True) → κ.B 0 f31 h11) → Lq E (.loop L_burinref07_has_1) κ t f10 h11 := by
 revert i_9 x
 refine loop1' ?_
 intro i_9 r hb x hn f10  Y12  ex0 ex1
 dsimp only [G_burinref07_has_L1] at hb
 refine loop_step L_burinref07_has_1.eq_1 ?_
 have X := Y12
 refine Tw ?_
 refine Tw ?_
 refine bq_if hb rfl (fun c21 hb => ?_) (fun c21 hb => ?_)
 ·have X := And.intro c21 X
  refine Tw ?_
  refine vq_idxS hb (fun x22 hx22 hb => ?_)
  refine Tw ?_
  refine bq_if hb rfl (fun c23 hb => ?_) (fun c23 hb => ?_)
  ·have hb := Option.some.inj hb
   subst hb
   have hn : _ = _ := hn
   subst hn
   have X := And.intro c23 X
   refine Tw ?_
   exact ex0 _ rfl Cw
  ·have X := And.intro c23 X
   refine Tw ?_
   refine vq_idxS hb (fun x24 hx24 hb => ?_)
   refine Tw ?_
   refine bq_if hb rfl (fun c25 hb => ?_) (fun c25 hb => ?_)
   ·have hb := Option.some.inj hb
    subst hb
    have hn : _ = _ := hn
    subst hn
    have X := And.intro c25 X
    refine Tw ?_
    exact ex0 _ rfl Cw
   ·have hb := Option.some.inj hb
    subst hb
    have X := And.intro c25 X
    refine Tw ?_
    exact hn _  Cw ex0 ex1
 ·have hb := Option.some.inj hb
  subst hb
  have hn : _ = _ := hn
  subst hn
  have X := And.intro c21 X
  refine Tw ?_
  exact ex1 _ rfl trivial
def G_burinref07_has (s_2 : Bytes) (a_3 : Int) (b_4 : Int) : Option (Bool) :=
 loopO (G_burinref07_has_L1 s_2 a_3 b_4) (0 : Int) >>= fun q36 => match q36 with
  | .a _ =>
   some true
  | .b _ =>
   some false
theorem G_burinref07_has_ok {s_2 : Bytes} {a_3 : Int} {b_4 : Int} {r5 : Bool} (hx : G_burinref07_has s_2 a_3 b_4 = some r5) : PureE E 85 [(.str s_2), (.int .u8 a_3), (.int .u8 b_4)] (fun v => v = (.bool r5)) := by
 refine pureE_ok fn_burinref07_has rfl ?_
 have hb := hx
 dsimp only [G_burinref07_has] at hb
 have X := True.intro
 refine Tw ?_
 refine bnd1 hb (fun q36 h37 hb => ?_)
 refine G_burinref07_has_L1_ok _ _ h37 trivial trivial _ Cw ?_ ?_
 ·intro f26 ex Y28
  subst ex
  try dsimp only at hb
  have hb := Option.some.inj hb
  subst hb
  have X := And.intro Y28 X
  refine Tw ?_
  exact endI rfl
 ·intro f31 ex Y33
  subst ex
  try dsimp only at hb
  have hb := Option.some.inj hb
  subst hb
  refine Tw ?_
  exact endI rfl
def G_burinref07_number (s_2 : Bytes) : Option (T_api_Word × Bool) :=
 G_burinref05_Number s_2 >>= fun (r7, r8, r9) =>
 if (!(r9 == (0 : Int))) then
  some ((T_api_Word.mk (0 : Int) [] (0 : Int) (0 : Int) [] (0 : Int)), false)
 else
  (
   if (decide ((1 : Int) < ((List.length s_2 : Nat) : Int))) then
    idx s_2 (0 : Int) >>= fun x17 =>
    if ((x17.toNat : Int) == (48 : Int)) then
     idx s_2 (1 : Int) >>= fun x19 =>
     if ((x19.toNat : Int) == (120 : Int)) then
      some true
     else
      idx s_2 (1 : Int) >>= fun x21 =>
      some ((x21.toNat : Int) == (88 : Int))
    else
     some false
   else
    some false
  ) >>= fun hex_22 =>
  idx s_2 (0 : Int) >>= fun x35 =>
  G_burinref07_has s_2 (117 : Int) (85 : Int) >>= fun r36 =>
  G_burinref07_has s_2 (108 : Int) (76 : Int) >>= fun r38 =>
  (
   if r36 then
    some (false, true)
   else
    if (!(!((x35.toNat : Int) == (48 : Int)))) then
     some (true, true)
    else
     some (true, hex_22)
  ) >>= fun (signed_48, unsigned_49) =>
  (
   if signed_48 then
    if (!r38) then
     some (true, (decide (r7 < (2147483648 : Int))))
    else
     some (true, false)
   else
    some (false, false)
  ) >>= fun (signed_70, v71) =>
  if v71 then
   some ((T_api_Word.mk (3 : Int) [] (IntKind.wrap .i64 r7) (5 : Int) [] (0 : Int)), (!((5 : Int) == (0 : Int))))
  else
   (
    if unsigned_49 then
     if (!r38) then
      some (true, (decide (r7 < (4294967296 : Int))))
     else
      some (true, false)
    else
     some (false, false)
   ) >>= fun (unsigned_93, v94) =>
   if v94 then
    some ((T_api_Word.mk (3 : Int) [] (IntKind.wrap .i64 r7) (6 : Int) [] (0 : Int)), (!((6 : Int) == (0 : Int))))
   else
    if signed_70 then
     if (decide (r7 < (9223372036854775808 : Int))) then
      some ((T_api_Word.mk (3 : Int) [] (IntKind.wrap .i64 r7) (7 : Int) [] (0 : Int)), (!((7 : Int) == (0 : Int))))
     else
      if unsigned_93 then
       some ((T_api_Word.mk (3 : Int) [] (IntKind.wrap .i64 r7) (8 : Int) [] (0 : Int)), (!((8 : Int) == (0 : Int))))
      else
       some ((T_api_Word.mk (3 : Int) [] (IntKind.wrap .i64 r7) (0 : Int) [] (0 : Int)), (!((0 : Int) == (0 : Int))))
    else
     if unsigned_93 then
      some ((T_api_Word.mk (3 : Int) [] (IntKind.wrap .i64 r7) (8 : Int) [] (0 : Int)), (!((8 : Int) == (0 : Int))))
     else
      some ((T_api_Word.mk (3 : Int) [] (IntKind.wrap .i64 r7) (0 : Int) [] (0 : Int)), (!((0 : Int) == (0 : Int))))
theorem G_burinref07_number_ok {s_2 : Bytes} {r3 : T_api_Word} {r4 : Bool} (hx : G_burinref07_number s_2 = some (r3, r4)) : PureE E 58 [(.str s_2)] (fun v => v = (.tuple [(.agg [(.int .i64 r3.Kind_), (.str r3.S_), (.int .i64 r3.V_), (.int .i64 r3.T_), (.str r3.File_), (.int .i64 r3.Line_)]), (.bool r4)])) := by
 refine pureE_ok fn_burinref07_number rfl ?_
 have hb := hx
 dsimp only [G_burinref07_number] at hb
 have X := True.intro
 refine Tw ?_
 refine bnd3 hb (fun r7 r8 r9 h10 hb => ?_)
 try dsimp only at hb
 refine pq_eq (G_burinref05_Number_ok h10) ?_
 refine Tw ?_
 refine bq_if hb rfl (fun c11 hb => ?_) (fun c11 hb => ?_)
 ·have hb := Option.some.inj hb
  obtain ⟨e0, e1⟩ := Prod.mk.inj hb
  subst e0
  subst e1
  have X := And.intro c11 X
  refine Tw ?_
  exact endI rfl
 ·have X := And.intro c11 X
  refine Tw ?_
  refine bnd1 hb (fun j29 hj hb => ?_)
  refine wq_join (fun Z => ∀ (f23 : Fr) (h24 : Heap) (hex_22 : Bool), hex_22 = j29 → (f23 0 = (.str s_2) ∧ f23 2 = (.ptr 0 0) ∧ f23 4 = (.int .u64 r7) ∧ f23 7 = (.bool hex_22) ∧ h24.box 0 = some [(.int .i64 (0 : Int)), (.str []), (.int .i64 (0 : Int)), (.int .i64 (0 : Int)), (.str []), (.int .i64 (0 : Int))]) → (0 < h24.n) → Z f23 h24) (fun Z hX15 => ?_) ?_
  ·have hr14 := hb
   clear hb
   have hb := hj
   clear hj
   refine wq_def J_burinref07_number_1.eq_1 ?_
   refine Tw ?_
   refine Tw ?_
   refine bq_if hb rfl (fun c16 hb => ?_) (fun c16 hb => ?_)
   ·have X := And.intro c16 X
    refine Tw ?_
    refine vq_idxS hb (fun x17 hx17 hb => ?_)
    refine Tw ?_
    refine bq_if hb rfl (fun c18 hb => ?_) (fun c18 hb => ?_)
    ·have X := And.intro c18 X
     refine Tw ?_
     refine vq_idxS hb (fun x19 hx19 hb => ?_)
     refine Tw ?_
     refine bq_if hb rfl (fun c20 hb => ?_) (fun c20 hb => ?_)
     ·have hb := Option.some.inj hb
      subst hb
      have X := And.intro c20 X
      refine Tw ?_
      exact hX15 _ _ true rfl Cw Cn
     ·have X := And.intro c20 X
      refine Tw ?_
      refine vq_idxS hb (fun x21 hx21 hb => ?_)
      have hb := Option.some.inj hb
      subst hb
      refine Tw ?_
      exact hX15 _ _ ((x21.toNat : Int) == (88 : Int)) rfl Cw Cn
    ·have hb := Option.some.inj hb
     subst hb
     have X := And.intro c18 X
     refine Tw ?_
     exact hX15 _ _ false rfl Cw Cn
   ·have hb := Option.some.inj hb
    subst hb
    have X := And.intro c16 X
    refine Tw ?_
    exact hX15 _ _ false rfl Cw Cn
  ·intro f23 h24 hex_22 ej Y25 Y27
   subst ej
   try dsimp only at hb
   have X := And.intro Y25 X
   refine Tw ?_
   refine vq_idxS hb (fun x35 hx35 hb => ?_)
   refine Tw ?_
   refine bnd1 hb (fun r36 h37 hb => ?_)
   refine pq_eq (G_burinref07_has_ok h37) ?_
   refine Tw ?_
   refine bnd1 hb (fun r38 h39 hb => ?_)
   refine pq_eq (G_burinref07_has_ok h39) ?_
   refine Tw ?_
   refine bnd1 hb (fun j56 hj hb => ?_)
   refine wq_join (fun Z => ∀ (f50 : Fr) (h51 : Heap) (signed_48 : Bool) (unsigned_49 : Bool), (signed_48, unsigned_49) = j56 → (f50 2 = (.ptr 0 0) ∧ f50 4 = (.int .u64 r7) ∧ f50 10 = (.bool r38) ∧ f50 11 = (.ptr h24.n 0) ∧ f50 12 = (.bool signed_48) ∧ f50 13 = (.bool unsigned_49) ∧ h51.box 0 = some [(.int .i64 (0 : Int)), (.str []), (.int .i64 (0 : Int)), (.int .i64 (0 : Int)), (.str []), (.int .i64 (0 : Int))] ∧ h51.box h24.n = some [(.int .i64 (3 : Int)), (.str []), (.int .i64 (IntKind.wrap .i64 r7)), (.int .i64 (0 : Int)), (.str []), (.int .i64 (0 : Int))]) → (0 < h24.n ∧ h24.n < h51.n) → Z f50 h51) (fun Z hX45 => ?_) ?_
   ·have hr44 := hb
    clear hb
    have hb := hj
    clear hj
    refine wq_def J_burinref07_number_2.eq_1 ?_
    refine Tw ?_
    refine Tw ?_
    refine bq_if hb rfl (fun c46 hb => ?_) (fun c46 hb => ?_)
    ·have hb := Option.some.inj hb
     subst hb
     have X := And.intro c46 X
     refine Tw ?_
     exact hX45 _ _ false true rfl Cw Cn
    ·have X := And.intro c46 X
     refine Tw ?_
     refine bq_if hb rfl (fun c47 hb => ?_) (fun c47 hb => ?_)
     ·have hb := Option.some.inj hb
      subst hb
      have X := And.intro c47 X
      refine Tw ?_
      exact hX45 _ _ true true rfl Cw Cn
     ·have hb := Option.some.inj hb
      subst hb
      have X := And.intro c47 X
      refine Tw ?_
      exact hX45 _ _ true hex_22 rfl Cw Cn
   ·intro f50 h51 signed_48 unsigned_49 ej Y52 Y54
    subst ej
    try dsimp only at hb
    have X := And.intro Y52 X
    refine Tw ?_
    refine bnd1 hb (fun j77 hj hb => ?_)
    refine wq_joinF (fun Z => ∀ (f72 : Fr) (signed_70 : Bool) (v71 : Bool), (signed_70, v71) = j77 → (f72 2 = (.ptr 0 0) ∧ f72 4 = (.int .u64 r7) ∧ f72 10 = (.bool r38) ∧ f72 11 = (.ptr h24.n 0) ∧ f72 12 = (.bool signed_70) ∧ f72 13 = (.bool unsigned_49) ∧ f72 69 = (.bool v71)) → Z f72) (fun Z hX67 => ?_) ?_
    ·have hr66 := hb
     clear hb
     have hb := hj
     clear hj
     refine wq_def J_burinref07_number_3.eq_1 ?_
     refine Tw ?_
     refine Tw ?_
     refine bq_if hb rfl (fun c68 hb => ?_) (fun c68 hb => ?_)
     ·have X := And.intro c68 X
      refine Tw ?_
      refine bq_if hb rfl (fun c69 hb => ?_) (fun c69 hb => ?_)
      ·have hb := Option.some.inj hb
       subst hb
       have X := And.intro c69 X
       refine Tw ?_
       exact hX67 _ true (decide (r7 < (2147483648 : Int))) rfl Cw
      ·have hb := Option.some.inj hb
       subst hb
       have X := And.intro c69 X
       refine Tw ?_
       exact hX67 _ true false rfl Cw
     ·have hb := Option.some.inj hb
      subst hb
      have X := And.intro c68 X
      refine Tw ?_
      exact hX67 _ false false rfl Cw
    ·intro f72 signed_70 v71 ej Y74
     subst ej
     try dsimp only at hb
     have X := And.intro Y74 X
     refine Tw ?_
     refine bq_if hb rfl (fun c85 hb => ?_) (fun c85 hb => ?_)
     ·have X := And.intro c85 X
      refine Tw ?_
      refine ⟨Ck, ?_⟩
      have hb := Option.some.inj hb
      obtain ⟨e0, e1⟩ := Prod.mk.inj hb
      subst e0
      subst e1
      refine Tw ?_
      exact endI rfl
     ·have X := And.intro c85 X
      refine Tw ?_
      refine bnd1 hb (fun j100 hj hb => ?_)
      refine wq_joinF (fun Z => ∀ (f95 : Fr) (unsigned_93 : Bool) (v94 : Bool), (unsigned_93, v94) = j100 → (f95 2 = (.ptr 0 0) ∧ f95 4 = (.int .u64 r7) ∧ f95 11 = (.ptr h24.n 0) ∧ f95 12 = (.bool signed_70) ∧ f95 13 = (.bool unsigned_93) ∧ f95 79 = (.bool v94)) → Z f95) (fun Z hX90 => ?_) ?_
      ·have hr89 := hb
       clear hb
       have hb := hj
       clear hj
       refine wq_def J_burinref07_number_4.eq_1 ?_
       refine Tw ?_
       refine Tw ?_
       refine bq_if hb rfl (fun c91 hb => ?_) (fun c91 hb => ?_)
       ·have X := And.intro c91 X
        refine Tw ?_
        refine bq_if hb rfl (fun c92 hb => ?_) (fun c92 hb => ?_)
        ·have hb := Option.some.inj hb
         subst hb
         have X := And.intro c92 X
         refine Tw ?_
         exact hX90 _ true (decide (r7 < (4294967296 : Int))) rfl Cw
        ·have hb := Option.some.inj hb
         subst hb
         have X := And.intro c92 X
         refine Tw ?_
         exact hX90 _ true false rfl Cw
       ·have hb := Option.some.inj hb
        subst hb
        have X := And.intro c91 X
        refine Tw ?_
        exact hX90 _ false false rfl Cw
      ·intro f95 unsigned_93 v94 ej Y97
       subst ej
       try dsimp only at hb
       have X := And.intro Y97 X
       refine Tw ?_
       refine bq_if hb rfl (fun c107 hb => ?_) (fun c107 hb => ?_)
       ·have X := And.intro c107 X
        refine Tw ?_
        refine ⟨Ck, ?_⟩
        have hb := Option.some.inj hb
        obtain ⟨e0, e1⟩ := Prod.mk.inj hb
        subst e0
        subst e1
        refine Tw ?_
        exact endI rfl
       ·have X := And.intro c107 X
        refine Tw ?_
        refine bq_if hb rfl (fun c110 hb => ?_) (fun c110 hb => ?_)
        ·have X := And.intro c110 X
         refine Tw ?_
         refine bq_if hb rfl (fun c111 hb => ?_) (fun c111 hb => ?_)
         ·have X := And.intro c111 X
          refine Tw ?_
          refine ⟨Ck, ?_⟩
          have hb := Option.some.inj hb
          obtain ⟨e0, e1⟩ := Prod.mk.inj hb
          subst e0
          subst e1
          refine Tw ?_
          exact endI rfl
         ·have X := And.intro c111 X
          refine Tw ?_
          refine bq_if hb rfl (fun c114 hb => ?_) (fun c114 hb => ?_)
          ·have X := And.intro c114 X
           refine Tw ?_
           refine ⟨Ck, ?_⟩
           have hb := Option.some.inj hb
           obtain ⟨e0, e1⟩ := Prod.mk.inj hb
           subst e0
           subst e1
           refine Tw ?_
           exact endI rfl
          ·have X := And.intro c114 X
           refine Tw ?_
           refine ⟨Ck, ?_⟩
           have hb := Option.some.inj hb
           obtain ⟨e0, e1⟩ := Prod.mk.inj hb
           subst e0
           subst e1
           refine Tw ?_
           exact endI rfl
        ·have X := And.intro c110 X
         refine Tw ?_
         refine bq_if hb rfl (fun c118 hb => ?_) (fun c118 hb => ?_)
         ·have X := And.intro c118 X
          refine Tw ?_
          refine ⟨Ck, ?_⟩
          have hb := Option.some.inj hb
          obtain ⟨e0, e1⟩ := Prod.mk.inj hb
          subst e0
          subst e1
          refine Tw ?_
          exact endI rfl
         ·have X := And.intro c118 X
          refine Tw ?_
          refine ⟨Ck, ?_⟩
          have hb := Option.some.inj hb
          obtain ⟨e0, e1⟩ := Prod.mk.inj hb
          subst e0
          subst e1
          refine Tw ?_
          exact endI rfl
def G_burinref05_Char (s_2 : Bytes) : Option (Int × Int) :=
 (
  if (decide (((List.length s_2 : Nat) : Int) < (3 : Int))) then
   some (Ex2.a ((0 : Int), (50 : Int)))
  else
   idx s_2 (0 : Int) >>= fun x10 =>
   if (!((x10.toNat : Int) == (39 : Int))) then
    some (Ex2.a ((0 : Int), (50 : Int)))
   else
    idx s_2 (IntKind.wrap .i64 (((List.length s_2 : Nat) : Int) - (1 : Int))) >>= fun x13 =>
    if (!((x13.toNat : Int) == (39 : Int))) then
     some (Ex2.a ((0 : Int), (50 : Int)))
    else
     some (Ex2.b ())
 ) >>= fun j21 => match j21 with
  | .a q => some q
  | .b () =>
   subB s_2 (1 : Int) (IntKind.wrap .i64 (((List.length s_2 : Nat) : Int) - (1 : Int))) >>= fun t23 =>
   G_burinref05_Bytes t23 >>= fun (r24, r29) =>
   if (!r29) then
    some ((0 : Int), (50 : Int))
   else
    if (!(((List.length r24 : Nat) : Int) == (1 : Int))) then
     some ((0 : Int), (50 : Int))
    else
     if (t23 == ([39] : Bytes)) then
      some ((0 : Int), (50 : Int))
     else
      if (t23 == ([10] : Bytes)) then
       some ((0 : Int), (50 : Int))
      else
       if (t23 == ([13] : Bytes)) then
        some ((0 : Int), (50 : Int))
       else
        idx r24 (0 : Int) >>= fun x36 =>
        some ((IntKind.wrap .i64 (IntKind.wrap .i8 (x36.toNat : Int))), (0 : Int))
theorem G_burinref05_Char_ok {s_2 : Bytes} {r3 : Int} {r4 : Int} (hx : G_burinref05_Char s_2 = some (r3, r4)) : PureE E 59 [(.str s_2)] (fun v => v = (.tuple [(.int .i64 r3), (.int .i64 r4)])) := by
 refine pureE_ok fn_burinref05_Char rfl ?_
 have hb := hx
 dsimp only [G_burinref05_Char] at hb
 have X := True.intro
 refine Tw ?_
 refine bnd1 hb (fun j21 hj hb => ?_)
 refine wq_joinF (fun Z => ∀ (f16 : Fr), Ex2.b () = j21 → (f16 0 = (.str s_2)) → Z f16) (fun Z hX7 => ?_) ?_
 ·have hr6 := hb
  clear hb
  have hb := hj
  clear hj
  refine wq_def J_burinref05_Char_1.eq_1 ?_
  refine Tw ?_
  refine Tw ?_
  refine bq_if hb rfl (fun c8 hb => ?_) (fun c8 hb => ?_)
  ·have hq := Option.some.inj hb
   subst hq
   try dsimp only at hr6
   have hb := hr6
   have hb := Option.some.inj hb
   obtain ⟨e0, e1⟩ := Prod.mk.inj hb
   subst e0
   subst e1
   have X := And.intro c8 X
   refine Tw ?_
   exact endI rfl
  ·have X := And.intro c8 X
   refine Tw ?_
   refine vq_idxS hb (fun x10 hx10 hb => ?_)
   refine Tw ?_
   refine bq_if hb rfl (fun c11 hb => ?_) (fun c11 hb => ?_)
   ·have hq := Option.some.inj hb
    subst hq
    try dsimp only at hr6
    have hb := hr6
    have hb := Option.some.inj hb
    obtain ⟨e0, e1⟩ := Prod.mk.inj hb
    subst e0
    subst e1
    have X := And.intro c11 X
    refine Tw ?_
    exact endI rfl
   ·have X := And.intro c11 X
    refine Tw ?_
    refine vq_idxS hb (fun x13 hx13 hb => ?_)
    refine Tw ?_
    refine bq_if hb rfl (fun c14 hb => ?_) (fun c14 hb => ?_)
    ·have hq := Option.some.inj hb
     subst hq
     try dsimp only at hr6
     have hb := hr6
     have hb := Option.some.inj hb
     obtain ⟨e0, e1⟩ := Prod.mk.inj hb
     subst e0
     subst e1
     have X := And.intro c14 X
     refine Tw ?_
     exact endI rfl
    ·have hb := Option.some.inj hb
     subst hb
     have X := And.intro c14 X
     refine Tw ?_
     exact hX7 _ rfl Cw
 ·intro f16 ej Y18
  subst ej
  try dsimp only at hb
  have X := And.intro Y18 X
  refine Tw ?_
  refine vq_subBs hb (fun t23 ht23 hb => ?_)
  refine Tw ?_
  refine bnd2 hb (fun r24 r29 h30 hb => ?_)
  try dsimp only at hb
  refine pq_in1 (G_burinref05_Bytes_ok h30) (fun o25 e26 M27 s28 => ?_)
  have X := And.intro s28.len X
  refine Tw ?_
  refine bq_if hb rfl (fun c31 hb => ?_) (fun c31 hb => ?_)
  ·have hb := Option.some.inj hb
   obtain ⟨e0, e1⟩ := Prod.mk.inj hb
   subst e0
   subst e1
   have X := And.intro c31 X
   refine Tw ?_
   exact endI rfl
  ·have X := And.intro c31 X
   refine Tw ?_
   refine bq_if hb rfl (fun c32 hb => ?_) (fun c32 hb => ?_)
   ·have hb := Option.some.inj hb
    obtain ⟨e0, e1⟩ := Prod.mk.inj hb
    subst e0
    subst e1
    have X := And.intro c32 X
    refine Tw ?_
    exact endI rfl
   ·have X := And.intro c32 X
    refine Tw ?_
    refine bq_if hb rfl (fun c33 hb => ?_) (fun c33 hb => ?_)
    ·have hb := Option.some.inj hb
     obtain ⟨e0, e1⟩ := Prod.mk.inj hb
     subst e0
     subst e1
     have X := And.intro c33 X
     refine Tw ?_
     exact endI rfl
    ·have X := And.intro c33 X
     refine Tw ?_
     refine bq_if hb rfl (fun c34 hb => ?_) (fun c34 hb => ?_)
     ·have hb := Option.some.inj hb
      obtain ⟨e0, e1⟩ := Prod.mk.inj hb
      subst e0
      subst e1
      have X := And.intro c34 X
      refine Tw ?_
      exact endI rfl
     ·have X := And.intro c34 X
      refine Tw ?_
      refine bq_if hb rfl (fun c35 hb => ?_) (fun c35 hb => ?_)
      ·have hb := Option.some.inj hb
       obtain ⟨e0, e1⟩ := Prod.mk.inj hb
       subst e0
       subst e1
       have X := And.intro c35 X
       refine Tw ?_
       exact endI rfl
      ·have X := And.intro c35 X
       refine Tw ?_
       refine vq_iaddr s28 hb (fun x36 cs37 hx36 hb hcs37 => ?_)
       cases (show cs37 = [(.int .u8 (x36.toNat : Int))] from hcs37)
       have hb := Option.some.inj hb
       obtain ⟨e0, e1⟩ := Prod.mk.inj hb
       subst e0
       subst e1
       refine Tw ?_
       exact endI rfl
def G_burinref07_word (t_2 : T_api_Tok) : Option (T_api_Word × Bool) :=
 G_burinref02_One t_2.S_ >>= fun (r9, r10) =>
 (
  if (!r10) then
   some (Ex2.a ((T_api_Word.mk (0 : Int) [] (0 : Int) (0 : Int) [] (0 : Int)), false))
  else
   if (!(r9.Kind_ == t_2.Kind_)) then
    some (Ex2.a ((T_api_Word.mk (0 : Int) [] (0 : Int) (0 : Int) [] (0 : Int)), false))
   else
    some (Ex2.b ())
 ) >>= fun j30 => match j30 with
  | .a q => some q
  | .b () =>
   if (t_2.Kind_ == (1 : Int)) then
    G_burinref07_IsKey t_2.S_ >>= fun r36 =>
    if r36 then
     some ((T_api_Word.mk (1 : Int) t_2.S_ (0 : Int) (0 : Int) [] (0 : Int)), true)
    else
     some ((T_api_Word.mk (2 : Int) t_2.S_ (0 : Int) (0 : Int) [] (0 : Int)), true)
   else
    if (t_2.Kind_ == (2 : Int)) then
     G_burinref07_number t_2.S_ >>= fun (r42, r43) =>
     some (r42, r43)
    else
     if (t_2.Kind_ == (3 : Int)) then
      G_burinref05_Char t_2.S_ >>= fun (r47, r48) =>
      some ((T_api_Word.mk (3 : Int) [] r47 (5 : Int) [] (0 : Int)), (r48 == (0 : Int)))
     else
      if (t_2.Kind_ == (5 : Int)) then
       if (!(t_2.S_ == ([35] : Bytes))) then
        some ((T_api_Word.mk (5 : Int) t_2.S_ (0 : Int) (0 : Int) [] (0 : Int)), (!(t_2.S_ == ([35, 35] : Bytes))))
       else
        some ((T_api_Word.mk (5 : Int) t_2.S_ (0 : Int) (0 : Int) [] (0 : Int)), false)
      else
       some ((T_api_Word.mk (0 : Int) [] (0 : Int) (0 : Int) [] (0 : Int)), false)
theorem G_burinref07_word_ok {t_2 : T_api_Tok} {r3 : T_api_Word} {r4 : Bool} (hx : G_burinref07_word t_2 = some (r3, r4)) : PureE E 37 [(.agg [(.int .i64 t_2.Kind_), (.str t_2.S_), (.str t_2.File_), (.int .i64 t_2.Line_), (.bool t_2.Space_), (.bool t_2.First_)])] (fun v => v = (.tuple [(.agg [(.int .i64 r3.Kind_), (.str r3.S_), (.int .i64 r3.V_), (.int .i64 r3.T_), (.str r3.File_), (.int .i64 r3.Line_)]), (.bool r4)])) := by
 refine pureE_ok fn_burinref07_word rfl ?_
 have hb := hx
 dsimp only [G_burinref07_word] at hb
 have X := True.intro
 refine Tw ?_
 refine bnd2 hb (fun r9 r10 h11 hb => ?_)
 try dsimp only at hb
 refine pq_eq (G_burinref02_One_ok h11) ?_
 refine Tw ?_
 refine bnd1 hb (fun j30 hj hb => ?_)
 refine wq_join (fun Z => ∀ (f24 : Fr) (h25 : Heap), Ex2.b () = j30 → (f24 1 = (.ptr 0 0) ∧ f24 2 = (.ptr 1 0) ∧ h25.box 0 = some [(.int .i64 t_2.Kind_), (.str t_2.S_), (.str t_2.File_), (.int .i64 t_2.Line_), (.bool t_2.Space_), (.bool t_2.First_)] ∧ h25.box 1 = some [(.int .i64 (0 : Int)), (.str []), (.int .i64 (0 : Int)), (.int .i64 (0 : Int)), (.str []), (.int .i64 (0 : Int))]) → (0 < 1 ∧ 1 < h25.n) → Z f24 h25) (fun Z hX17 => ?_) ?_
 ·have hr16 := hb
  clear hb
  have hb := hj
  clear hj
  refine wq_def J_burinref07_word_1.eq_1 ?_
  refine Tw ?_
  refine Tw ?_
  refine bq_if hb rfl (fun c18 hb => ?_) (fun c18 hb => ?_)
  ·have hq := Option.some.inj hb
   subst hq
   try dsimp only at hr16
   have hb := hr16
   have hb := Option.some.inj hb
   obtain ⟨e0, e1⟩ := Prod.mk.inj hb
   subst e0
   subst e1
   have X := And.intro c18 X
   refine Tw ?_
   exact endI rfl
  ·have X := And.intro c18 X
   refine Tw ?_
   refine bq_if hb rfl (fun c21 hb => ?_) (fun c21 hb => ?_)
   ·have hq := Option.some.inj hb
    subst hq
    try dsimp only at hr16
    have hb := hr16
    have hb := Option.some.inj hb
    obtain ⟨e0, e1⟩ := Prod.mk.inj hb
    subst e0
    subst e1
    have X := And.intro c21 X
    refine Tw ?_
    exact endI rfl
   ·have hb := Option.some.inj hb
    subst hb
    have X := And.intro c21 X
    refine Tw ?_
    exact hX17 _ _ rfl Cw Cn
 ·intro f24 h25 ej Y26 Y28
  subst ej
  try dsimp only at hb
  have X := And.intro Y26 X
  refine Tw ?_
  refine bq_if hb rfl (fun c35 hb => ?_) (fun c35 hb => ?_)
  ·have X := And.intro c35 X
   refine Tw ?_
   refine bnd1 hb (fun r36 h37 hb => ?_)
   refine pq_eq (G_burinref07_IsKey_ok h37) ?_
   refine Tw ?_
   refine bq_if hb rfl (fun c38 hb => ?_) (fun c38 hb => ?_)
   ·have hb := Option.some.inj hb
    obtain ⟨e0, e1⟩ := Prod.mk.inj hb
    subst e0
    subst e1
    have X := And.intro c38 X
    refine Tw ?_
    exact endI rfl
   ·have hb := Option.some.inj hb
    obtain ⟨e0, e1⟩ := Prod.mk.inj hb
    subst e0
    subst e1
    have X := And.intro c38 X
    refine Tw ?_
    exact endI rfl
  ·have X := And.intro c35 X
   refine Tw ?_
   refine bq_if hb rfl (fun c41 hb => ?_) (fun c41 hb => ?_)
   ·have X := And.intro c41 X
    refine Tw ?_
    refine bnd2 hb (fun r42 r43 h44 hb => ?_)
    try dsimp only at hb
    refine pq_eq (G_burinref07_number_ok h44) ?_
    have hb := Option.some.inj hb
    obtain ⟨e0, e1⟩ := Prod.mk.inj hb
    subst e0
    subst e1
    refine Tw ?_
    exact endI rfl
   ·have X := And.intro c41 X
    refine Tw ?_
    refine bq_if hb rfl (fun c46 hb => ?_) (fun c46 hb => ?_)
    ·have X := And.intro c46 X
     refine Tw ?_
     refine bnd2 hb (fun r47 r48 h49 hb => ?_)
     try dsimp only at hb
     refine pq_eq (G_burinref05_Char_ok h49) ?_
     have hb := Option.some.inj hb
     obtain ⟨e0, e1⟩ := Prod.mk.inj hb
     subst e0
     subst e1
     refine Tw ?_
     exact endI rfl
    ·have X := And.intro c46 X
     refine Tw ?_
     refine bq_if hb rfl (fun c51 hb => ?_) (fun c51 hb => ?_)
     ·have X := And.intro c51 X
      refine Tw ?_
      refine bq_if hb rfl (fun c52 hb => ?_) (fun c52 hb => ?_)
      ·have X := And.intro c52 X
       refine Tw ?_
       refine ⟨Ck, ?_⟩
       have hb := Option.some.inj hb
       obtain ⟨e0, e1⟩ := Prod.mk.inj hb
       subst e0
       subst e1
       refine Tw ?_
       exact endI rfl
      ·have X := And.intro c52 X
       refine Tw ?_
       refine ⟨Ck, ?_⟩
       have hb := Option.some.inj hb
       obtain ⟨e0, e1⟩ := Prod.mk.inj hb
       subst e0
       subst e1
       refine Tw ?_
       exact endI rfl
     ·have hb := Option.some.inj hb
      obtain ⟨e0, e1⟩ := Prod.mk.inj hb
      subst e0
      subst e1
      have X := And.intro c51 X
      refine Tw ?_
      exact endI rfl
def G_burinref07_Words_L2 (l_50 : List T_api_Tok) : Int × Bytes → Option ((Int × Bytes) ⊕ (Ex2 (Int × Bytes) (Bytes × Int × Bytes))) := fun (i_60, v75) =>
 (
  if (decide (i_60 < ((List.length l_50 : Nat) : Int))) then
   idx l_50 i_60 >>= fun x94 =>
   if (x94.Kind_ == (4 : Int)) then
    some (Ex2.b ())
   else
    some (Ex2.a (Sum.inr (Ex2.a (i_60, v75))))
  else
   some (Ex2.a (Sum.inr (Ex2.a (i_60, v75))))
 ) >>= fun j104 => match j104 with
  | .a q => some q
  | .b () =>
   idx l_50 i_60 >>= fun x110 =>
   G_burinref07_inner x110.S_ >>= fun (r112, r113) =>
   if (!r113) then
    idx l_50 i_60 >>= fun x116 =>
    idx l_50 i_60 >>= fun x118 =>
    some (Sum.inr (Ex2.b (x116.File_, x118.Line_, v75)))
   else
    cat v75 r112 >>= fun t120 =>
    some (Sum.inl ((IntKind.wrap .i64 (i_60 + (1 : Int))), t120))
theorem G_burinref07_Words_L2_ok {κ : Kt} {t : Blk κ} {l_50 : List T_api_Tok} {out_55 : List T_api_Word} {v67 : Int} {v68 : Bytes} {v69 : Bytes} {v70 : Int} {v71 : Bool} {v72 : Bool} {v74 : Int} {v76 : Int} {v77 : Int} {v78 : Bytes} {v79 : Int} {o51 : Own} {e52 : Nat} {M53 : List (List PV)} {o56 : Own} {e57 : Nat} {M58 : List (List PV)} {b66 : Nat} {b73 : Nat} (i_60 : Int) (v75 : Bytes) (x : Ex2 (Int × Bytes) (Bytes × Int × Bytes)) (hx : loopO (G_burinref07_Words_L2 l_50) (i_60, v75) = some x) (s54 : SlR 6 T_api_Tok.R o51 e52 l_50 M53) (s59 : SlR 6 T_api_Word.R o56 e57 out_55 M58) : ∀ (f61 : Fr) (h62 : Heap), (f61 0 = (.slice o51 e52 M53) ∧ f61 6 = (.slice o56 e57 M58) ∧ f61 7 = (.int .i64 i_60) ∧ f61 8 = (.ptr b66 0) ∧ f61 9 = (.ptr b73 0)) → (h62.box b66 = some [(.int .i64 v67), (.str v68), (.str v69), (.int .i64 v70), (.bool v71), (.bool v72)] ∧ h62.box b73 = some [(.int .i64 v74), (.str v75), (.int .i64 v76), (.int .i64 v77), (.str v78), (.int .i64 v79)] ∧ OwnOK h62 o56) → (b66 < b73 ∧ b73 < h62.n) → (∀ (f123 : Fr) (h124 : Heap) (i_122 : Int) (v128 : Bytes), Ex2.a (i_122, v128) = x → (f123 0 = (.slice o51 e52 M53) ∧ f123 6 = (.slice o56 e57 M58) ∧ f123 7 = (.int .i64 i_122) ∧ f123 8 = (.ptr b66 0) ∧ f123 9 = (.ptr b73 0) ∧ h124.box b66 = some [(.int .i64 v67), (.str v68), (.str v69), (.int .i64 v70), (.bool v71), (.bool v72)] ∧ h124.box b73 = some [(.int .i64 v74), (.str v128), (.int .i64 v76), (.int .i64 v77), (.str v78), (.int .i64 v79)] ∧ OwnOK h124 o56) → (b66 < b73 ∧ b73 < h124.n) → κ.B 2 f123 h124) → (∀ (f132 : Fr) (h133 : Heap) (v130 : Bytes) (v131 : Int) (v137 : Bytes), Ex2.b (v130, v131, v137) = x → (f132 2 = (.slice .nil 0 []) ∧ f132 3 = (.int .i64 (70 : Int)) ∧ f132 4 = (.str v130) ∧ f132 5 = (.int .i64 v131) ∧ h133.box b66 = some [(.int .i64 v67), (.str v68), (.str v69), (.int .i64 v70), (.bool v71), (.bool v72)] ∧ h133.box b73 = some [(.int .i64 v74), (.str v137), (.int .i64 v76), (.int .i64 v77), (.str v78), (.int .i64 v79)]) → (b66 < b73 ∧ b73 < h133.n) → κ.R f132 h133) → Lq E (.loop L_burinref07_Words_2) κ t f61 h62 := by
 revert i_60 v75 x
 refine loop2' ?_
 intro i_60 v75 r hb x hn f61 h62  Y63 Y64 Y65  ex0 ex1
 dsimp only [G_burinref07_Words_L2] at hb
 refine loop_step L_burinref07_Words_2.eq_1 ?_
 have X := And.intro Y63 (And.intro Y64 (And.intro s54.len (s59.len)))
 refine Tw ?_
 refine Tw ?_
 refine bnd1 hb (fun j104 hj hb => ?_)
 refine wq_joinF (fun Z => ∀ (f99 : Fr), Ex2.b () = j104 → (f99 0 = (.slice o51 e52 M53) ∧ f99 6 = (.slice o56 e57 M58) ∧ f99 7 = (.int .i64 i_60) ∧ f99 8 = (.ptr b66 0) ∧ f99 9 = (.ptr b73 0)) → Z f99) (fun Z hX92 => ?_) ?_
 ·have hr91 := hb
  clear hb
  have hb := hj
  clear hj
  refine wq_def J_burinref07_Words_2.eq_1 ?_
  refine Tw ?_
  refine Tw ?_
  refine bq_if hb rfl (fun c93 hb => ?_) (fun c93 hb => ?_)
  ·have X := And.intro c93 X
   refine Tw ?_
   refine vq_iaddr s54 hb (fun x94 cs95 hx94 hb hcs95 => ?_)
   cases (show cs95 = [(.int .i64 x94.Kind_), (.str x94.S_), (.str x94.File_), (.int .i64 x94.Line_), (.bool x94.Space_), (.bool x94.First_)] from hcs95)
   refine Tw ?_
   refine bq_if hb rfl (fun c96 hb => ?_) (fun c96 hb => ?_)
   ·have hb := Option.some.inj hb
    subst hb
    have X := And.intro c96 X
    refine Tw ?_
    exact hX92 _ rfl Cw
   ·have hq := Option.some.inj hb
    subst hq
    try dsimp only at hr91
    have hb := hr91
    have hb := Option.some.inj hb
    subst hb
    have hn : _ = _ := hn
    subst hn
    have X := And.intro c96 X
    refine Tw ?_
    exact ex0 _ _ i_60 v75 rfl Cw Cn
  ·have hq := Option.some.inj hb
   subst hq
   try dsimp only at hr91
   have hb := hr91
   have hb := Option.some.inj hb
   subst hb
   have hn : _ = _ := hn
   subst hn
   have X := And.intro c93 X
   refine Tw ?_
   exact ex0 _ _ i_60 v75 rfl Cw Cn
 ·intro f99 ej Y101
  subst ej
  try dsimp only at hb
  have X := And.intro Y101 X
  refine Tw ?_
  refine vq_iaddr s54 hb (fun x110 cs111 hx110 hb hcs111 => ?_)
  cases (show cs111 = [(.int .i64 x110.Kind_), (.str x110.S_), (.str x110.File_), (.int .i64 x110.Line_), (.bool x110.Space_), (.bool x110.First_)] from hcs111)
  refine Tw ?_
  refine bnd2 hb (fun r112 r113 h114 hb => ?_)
  try dsimp only at hb
  refine pq_eq (G_burinref07_inner_ok h114) ?_
  refine Tw ?_
  refine bq_if hb rfl (fun c115 hb => ?_) (fun c115 hb => ?_)
  ·have X := And.intro c115 X
   refine Tw ?_
   refine vq_iaddr s54 hb (fun x116 cs117 hx116 hb hcs117 => ?_)
   cases (show cs117 = [(.int .i64 x116.Kind_), (.str x116.S_), (.str x116.File_), (.int .i64 x116.Line_), (.bool x116.Space_), (.bool x116.First_)] from hcs117)
   refine Tw ?_
   refine vq_iaddr s54 hb (fun x118 cs119 hx118 hb hcs119 => ?_)
   cases (show cs119 = [(.int .i64 x118.Kind_), (.str x118.S_), (.str x118.File_), (.int .i64 x118.Line_), (.bool x118.Space_), (.bool x118.First_)] from hcs119)
   have hb := Option.some.inj hb
   subst hb
   have hn : _ = _ := hn
   subst hn
   refine Tw ?_
   exact ex1 _ _ x116.File_ x118.Line_ v75 rfl Cw Cn
  ·have X := And.intro c115 X
   refine Tw ?_
   refine vq_cat hb (fun t120 ht120 hb => ?_)
   have hb := Option.some.inj hb
   subst hb
   refine Tw ?_
   exact hn _ _  Cw Cw Cn ex0 ex1
def G_burinref07_Words_L1 (l_15 : List T_api_Tok) : List T_api_Word × Int → Option ((List T_api_Word × Int) ⊕ (Ex2 (Bytes × Int) (List T_api_Word))) := fun (out_20, i_25) =>
 if (decide (i_25 < ((List.length l_15 : Nat) : Int))) then
  idx l_15 i_25 >>= fun x38 =>
  (
   if (x38.Kind_ == (4 : Int)) then
    loopO (G_burinref07_Words_L2 l_15) (i_25, ([] : Bytes)) >>= fun q139 => match q139 with
     | .a (i_122, v128) =>
      some (Ex2.b ((IntKind.wrap .i64 (i_122 - (1 : Int))), (decide (((List.length v128 : Nat) : Int) ≤ (4096 : Int))), (4 : Int), v128, (0 : Int), (0 : Int), [], (0 : Int)))
     | .b (v130, v131, v137) =>
      some (Ex2.a (Sum.inr (Ex2.a (v130, v131))))
   else
    G_burinref07_word x38 >>= fun (r158, r159) =>
    some (Ex2.b (i_25, r159, r158.Kind_, r158.S_, r158.V_, r158.T_, r158.File_, r158.Line_))
  ) >>= fun j176 => match j176 with
   | .a q => some q
   | .b (i_162, ok_163, v169, v170, v171, v172, v173, v174) =>
    if (!ok_163) then
     some (Sum.inr (Ex2.a (x38.File_, x38.Line_)))
    else
     app 64 out_20 [(T_api_Word.mk v169 v170 v171 v172 x38.File_ x38.Line_)] >>= fun t190 =>
     some (Sum.inl (t190, (IntKind.wrap .i64 (i_162 + (1 : Int)))))
 else
  some (Sum.inr (Ex2.b out_20))
theorem G_burinref07_Words_L1_ok {κ : Kt} {t : Blk κ} {l_15 : List T_api_Tok} {o16 : Own} {e17 : Nat} {M18 : List (List PV)} (out_20 : List T_api_Word) (i_25 : Int) (x : Ex2 (Bytes × Int) (List T_api_Word)) (hx : loopO (G_burinref07_Words_L1 l_15) (out_20, i_25) = some x) (s19 : SlR 6 T_api_Tok.R o16 e17 l_15 M18) : ∀ (f26 : Fr) (h27 : Heap) (o21 : Own) (e22 : Nat) (M23 : List (List PV)), (f26 0 = (.slice o16 e17 M18) ∧ f26 6 = (.slice o21 e22 M23) ∧ f26 7 = (.int .i64 i_25)) → (OwnOK h27 o21) → (True) → SlR 6 T_api_Word.R o21 e22 out_20 M23 → (∀ (f201 : Fr) (h202 : Heap) (v199 : Bytes) (v200 : Int), Ex2.a (v199, v200) = x → (f201 2 = (.slice .nil 0 []) ∧ f201 3 = (.int .i64 (70 : Int)) ∧ f201 4 = (.str v199) ∧ f201 5 = (.int .i64 v200)) → (True) → κ.R f201 h202) → (∀ (f212 : Fr) (h213 : Heap) (out_207 : List T_api_Word) (o208 : Own) (e209 : Nat) (M210 : List (List PV)), Ex2.b out_207 = x → (f212 6 = (.slice o208 e209 M210) ∧ OwnOK h213 o208) → (True) → SlR 6 T_api_Word.R o208 e209 out_207 M210 → κ.B 0 f212 h213) → Lq E (.loop L_burinref07_Words_1) κ t f26 h27 := by
 revert out_20 i_25 x
 refine loop2' ?_
 intro out_20 i_25 r hb x hn f26 h27 o21 e22 M23 Y28 Y29 Y30 s24 ex0 ex1
 dsimp only [G_burinref07_Words_L1] at hb
 refine loop_step L_burinref07_Words_1.eq_1 ?_
 have X := And.intro Y28 (And.intro Y29 (And.intro s19.len (s24.len)))
 refine Tw ?_
 refine Tw ?_
 refine bq_if hb rfl (fun c37 hb => ?_) (fun c37 hb => ?_)
 ·have X := And.intro c37 X
  refine Tw ?_
  refine vq_iaddr s19 hb (fun x38 cs39 hx38 hb hcs39 => ?_)
  cases (show cs39 = [(.int .i64 x38.Kind_), (.str x38.S_), (.str x38.File_), (.int .i64 x38.Line_), (.bool x38.Space_), (.bool x38.First_)] from hcs39)
  refine Tw ?_
  refine bnd1 hb (fun j176 hj hb => ?_)
  refine wq_join (fun Z => ∀ (f164 : Fr) (h165 : Heap) (i_162 : Int) (ok_163 : Bool) (v169 : Int) (v170 : Bytes) (v171 : Int) (v172 : Int) (v173 : Bytes) (v174 : Int), Ex2.b (i_162, ok_163, v169, v170, v171, v172, v173, v174) = j176 → (f164 0 = (.slice o16 e17 M18) ∧ f164 6 = (.slice o21 e22 M23) ∧ f164 7 = (.int .i64 i_162) ∧ f164 8 = (.ptr h27.n 0) ∧ f164 9 = (.ptr (h27.n + 1) 0) ∧ f164 10 = (.bool ok_163) ∧ h165.box h27.n = some [(.int .i64 x38.Kind_), (.str x38.S_), (.str x38.File_), (.int .i64 x38.Line_), (.bool x38.Space_), (.bool x38.First_)] ∧ h165.box (h27.n + 1) = some [(.int .i64 v169), (.str v170), (.int .i64 v171), (.int .i64 v172), (.str v173), (.int .i64 v174)] ∧ OwnOK h165 o21) → (h27.n < (h27.n + 1) ∧ (h27.n + 1) < h165.n) → Z f164 h165) (fun Z hX48 => ?_) ?_
  ·have hr47 := hb
   clear hb
   have hb := hj
   clear hj
   refine wq_def J_burinref07_Words_1.eq_1 ?_
   refine Tw ?_
   refine Tw ?_
   refine bq_if hb rfl (fun c49 hb => ?_) (fun c49 hb => ?_)
   ·have X := And.intro c49 X
    refine Tw ?_
    refine bnd1 hb (fun q139 h140 hb => ?_)
    refine G_burinref07_Words_L2_ok (o51 := o16) (e52 := e17) (M53 := M18) (out_55 := out_20) (o56 := o21) (e57 := e22) (M58 := M23) (v67 := x38.Kind_) (v68 := x38.S_) (v69 := x38.File_) (v70 := x38.Line_) (v71 := x38.Space_) (v72 := x38.First_) (v74 := (4 : Int)) (v76 := (0 : Int)) (v77 := (0 : Int)) (v78 := []) (v79 := (0 : Int)) (b66 := h27.n) (b73 := (h27.n + 1)) _ _ _ h140 s19 s24 _ _ Cw Cw Cn ?_ ?_
    ·intro f123 h124 i_122 v128 ex Y125 Y127
     subst ex
     try dsimp only at hb
     have hb := Option.some.inj hb
     subst hb
     have X := And.intro Y125 X
     refine Tw ?_
     exact hX48 _ _ (IntKind.wrap .i64 (i_122 - (1 : Int))) (decide (((List.length v128 : Nat) : Int) ≤ (4096 : Int))) (4 : Int) v128 (0 : Int) (0 : Int) [] (0 : Int) rfl Cw Cn
    ·intro f132 h133 v130 v131 v137 ex Y134 Y136
     subst ex
     try dsimp only at hb
     have hq := Option.some.inj hb
     subst hq
     try dsimp only at hr47
     have hb := hr47
     have hb := Option.some.inj hb
     subst hb
     have hn : _ = _ := hn
     subst hn
     have X := And.intro Y134 X
     refine Tw ?_
     exact ex0 _ _ v130 v131 rfl Cw trivial
   ·have X := And.intro c49 X
    refine Tw ?_
    refine bnd2 hb (fun r158 r159 h160 hb => ?_)
    try dsimp only at hb
    refine pq_eq (G_burinref07_word_ok h160) ?_
    have hb := Option.some.inj hb
    subst hb
    refine Tw ?_
    exact hX48 _ _ i_25 r159 r158.Kind_ r158.S_ r158.V_ r158.T_ r158.File_ r158.Line_ rfl Cw Cn
  ·intro f164 h165 i_162 ok_163 v169 v170 v171 v172 v173 v174 ej Y166 Y168
   subst ej
   try dsimp only at hb
   have X := And.intro Y166 X
   refine Tw ?_
   refine bq_if hb rfl (fun c186 hb => ?_) (fun c186 hb => ?_)
   ·have hb := Option.some.inj hb
    subst hb
    have hn : _ = _ := hn
    subst hn
    have X := And.intro c186 X
    refine Tw ?_
    exact ex0 _ _ x38.File_ x38.Line_ rfl Cw trivial
   ·have X := And.intro c186 X
    refine Tw ?_
    refine vq_bsl rfl ?_
    refine Tw ?_
    refine vq_app s24 Cw (show SlR 6 T_api_Word.R (.own h165.n false) 6 ([(T_api_Word.mk v169 v170 v171 v172 x38.File_ x38.Line_)] : List T_api_Word) [[(.int .i64 v169), (.str v170), (.int .i64 v171), (.int .i64 v172), (.str x38.File_), (.int .i64 x38.Line_)]] from (slr_cons (by simp) rfl (slr_0 (R := T_api_Word.R)))) hb (fun t190 o191 M192 h193 ht190 hb s194 O195 F196 => ?_)
    have q197 := F196.n
    try simp only [HN] at q197
    have hb := Option.some.inj hb
    subst hb
    have X := And.intro F196.box (And.intro F196.loop (And.intro F196.bty (And.intro O195 (And.intro s194.len X))))
    refine Tw ?_
    exact hn _ _ o191 6 M192 Cw Cw trivial s194 ex0 ex1
 ·have hb := Option.some.inj hb
  subst hb
  have hn : _ = _ := hn
  subst hn
  have X := And.intro c37 X
  refine Tw ?_
  exact ex1 _ _ out_20 o21 e22 M23 rfl Cw trivial s24
def G_burinref07_Words (l_2 : List T_api_Tok) : Option (List T_api_Word × Int × Bytes × Int) :=
 loopO (G_burinref07_Words_L1 l_2) (([] : List T_api_Word), (0 : Int)) >>= fun q218 => match q218 with
  | .a (v199, v200) =>
   some (([] : List T_api_Word), (70 : Int), v199, v200)
  | .b out_207 =>
   some (out_207, (0 : Int), ([] : Bytes), (0 : Int))
theorem G_burinref07_Words_ok {l_2 : List T_api_Tok} {o3 : Own} {e4 : Nat} {M5 : List (List PV)} {r7 : List T_api_Word} {r8 : Int} {r9 : Bytes} {r10 : Int} (hx : G_burinref07_Words l_2 = some (r7, r8, r9, r10)) (s6 : SlR 6 T_api_Tok.R o3 e4 l_2 M5) : PureE E 16 [(.slice o3 e4 M5)] (fun v => ∃ o11 e12 M13, v = (.tuple [(.slice o11 e12 M13), (.int .i64 r8), (.str r9), (.int .i64 r10)]) ∧ SlR 6 T_api_Word.R o11 e12 r7 M13) := by
 refine pureE_ok fn_burinref07_Words rfl ?_
 have hb := hx
 dsimp only [G_burinref07_Words] at hb
 have X := s6.len
 refine Tw ?_
 refine bnd1 hb (fun q218 h219 hb => ?_)
 refine G_burinref07_Words_L1_ok (o16 := o3) (e17 := e4) (M18 := M5) _ _ _ h219 s6 _ _ .nil 0 [] Cw Cw trivial (slr_nil (R := T_api_Word.R)) ?_ ?_
 ·intro f201 h202 v199 v200 ex Y203 Y205
  subst ex
  try dsimp only at hb
  have hb := Option.some.inj hb
  obtain ⟨e0, hb⟩ := Prod.mk.inj hb
  obtain ⟨e1, hb⟩ := Prod.mk.inj hb
  obtain ⟨e2, e3⟩ := Prod.mk.inj hb
  subst e0
  subst e1
  subst e2
  subst e3
  have X := And.intro Y203 X
  refine Tw ?_
  exact endI ⟨.nil, 0, [], rfl, (slr_nil (R := T_api_Word.R)).st⟩
 ·intro f212 h213 out_207 o208 e209 M210 ex Y214 Y216 s211
  subst ex
  try dsimp only at hb
  have hb := Option.some.inj hb
  obtain ⟨e0, hb⟩ := Prod.mk.inj hb
  obtain ⟨e1, hb⟩ := Prod.mk.inj hb
  obtain ⟨e2, e3⟩ := Prod.mk.inj hb
  subst e0
  subst e1
  subst e2
  subst e3
  have X := And.intro Y214 (And.intro s211.len X)
  refine Tw ?_
  exact endI ⟨(stO o208), e209, M210, rfl, s211.st⟩
def G_burinref07_Same_L1 (a_14 : List T_api_Word) (b_19 : List T_api_Word) : Int → Option ((Int) ⊕ (Ex2 (Unit) (Unit))) := fun i_24 =>
 if (decide (i_24 < ((List.length a_14 : Nat) : Int))) then
  idx a_14 i_24 >>= fun x36 =>
  idx b_19 i_24 >>= fun x38 =>
  if (!((x36.Kind_ == x38.Kind_) && ((x36.S_ == x38.S_) && ((x36.V_ == x38.V_) && ((x36.T_ == x38.T_) && ((x36.File_ == x38.File_) && (x36.Line_ == x38.Line_))))))) then
   some (Sum.inr (Ex2.a ()))
  else
   some (Sum.inl (IntKind.wrap .i64 (i_24 + (1 : Int))))
 else
  some (Sum.inr (Ex2.b ()))
theorem G_burinref07_Same_L1_ok {κ : Kt} {t : Blk κ} {a_14 : List T_api_Word} {b_19 : List T_api_Word} {o15 : Own} {e16 : Nat} {M17 : List (List PV)} {o20 : Own} {e21 : Nat} {M22 : List (List PV)} {h26 : Heap} (i_24 : Int) (x : Ex2 (Unit) (Unit)) (hx : loopO (G_burinref07_Same_L1 a_14 b_19) i_24 = some x) (hh : True) (ho : True) (s18 : SlR 6 T_api_Word.R o15 e16 a_14 M17) (s23 : SlR 6 T_api_Word.R o20 e21 b_19 M22) : ∀ (f25 : Fr), (f25 0 = (.slice o15 e16 M17) ∧ f25 1 = (.slice o20 e21 M22) ∧ f25 5 = (.int .i64 i_24)) → (∀ (f41 : Fr), Ex2.a () = x → (f41 4 = (.bool false)) → κ.R f41 h26) → (∀ (f46 : Fr), Ex2.b () = x → (True) → κ.B 0 f46 h26) → Lq E (.loop L_burinref07_Same_1) κ t f25 h26 := by
 revert i_24 x
 refine loop1' ?_
 intro i_24 r hb x hn f25  Y27  ex0 ex1
 dsimp only [G_burinref07_Same_L1] at hb
 refine loop_step L_burinref07_Same_1.eq_1 ?_
 have X := And.intro Y27 (And.intro s18.len (s23.len))
 refine Tw ?_
 refine Tw ?_
 refine bq_if hb rfl (fun c35 hb => ?_) (fun c35 hb => ?_)
 ·have X := And.intro c35 X
  refine Tw ?_
  refine vq_iaddr s18 hb (fun x36 cs37 hx36 hb hcs37 => ?_)
  cases (show cs37 = [(.int .i64 x36.Kind_), (.str x36.S_), (.int .i64 x36.V_), (.int .i64 x36.T_), (.str x36.File_), (.int .i64 x36.Line_)] from hcs37)
  refine Tw ?_
  refine vq_iaddr s23 hb (fun x38 cs39 hx38 hb hcs39 => ?_)
  cases (show cs39 = [(.int .i64 x38.Kind_), (.str x38.S_), (.int .i64 x38.V_), (.int .i64 x38.T_), (.str x38.File_), (.int .i64 x38.Line_)] from hcs39)
  refine Tw ?_
  refine bq_if hb rfl (fun c40 hb => ?_) (fun c40 hb => ?_)
  ·have hb := Option.some.inj hb
   subst hb
   have hn : _ = _ := hn
   subst hn
   have X := And.intro c40 X
   refine Tw ?_
   exact ex0 _ rfl Cw
  ·have hb := Option.some.inj hb
   subst hb
   have X := And.intro c40 X
   refine Tw ?_
   exact hn _  Cw ex0 ex1
 ·have hb := Option.some.inj hb
  subst hb
  have hn : _ = _ := hn
  subst hn
  have X := And.intro c35 X
  refine Tw ?_
  exact ex1 _ rfl trivial
def G_burinref07_Same (a_2 : List T_api_Word) (b_7 : List T_api_Word) : Option (Bool) :=
 if (!(((List.length a_2 : Nat) : Int) == ((List.length b_7 : Nat) : Int))) then
  some false
 else
  loopO (G_burinref07_Same_L1 a_2 b_7) (0 : Int) >>= fun q51 => match q51 with
   | .a _ =>
    some false
   | .b _ =>
    some true
theorem G_burinref07_Same_ok {a_2 : List T_api_Word} {b_7 : List T_api_Word} {o3 : Own} {e4 : Nat} {M5 : List (List PV)} {o8 : Own} {e9 : Nat} {M10 : List (List PV)} {r12 : Bool} (hx : G_burinref07_Same a_2 b_7 = some r12) (s6 : SlR 6 T_api_Word.R o3 e4 a_2 M5) (s11 : SlR 6 T_api_Word.R o8 e9 b_7 M10) : PureE E 17 [(.slice o3 e4 M5), (.slice o8 e9 M10)] (fun v => v = (.bool r12)) := by
 refine pureE_ok fn_burinref07_Same rfl ?_
 have hb := hx
 dsimp only [G_burinref07_Same] at hb
 have X := And.intro s6.len (s11.len)
 refine Tw ?_
 refine bq_if hb rfl (fun c13 hb => ?_) (fun c13 hb => ?_)
 ·have hb := Option.some.inj hb
  subst hb
  have X := And.intro c13 X
  refine Tw ?_
  exact endI rfl
 ·have X := And.intro c13 X
  refine Tw ?_
  refine bnd1 hb (fun q51 h52 hb => ?_)
  refine G_burinref07_Same_L1_ok (o15 := o3) (e16 := e4) (M17 := M5) (o20 := o8) (e21 := e9) (M22 := M10) _ _ h52 trivial trivial s6 s11 _ Cw ?_ ?_
  ·intro f41 ex Y43
   subst ex
   try dsimp only at hb
   have hb := Option.some.inj hb
   subst hb
   have X := And.intro Y43 X
   refine Tw ?_
   exact endI rfl
  ·intro f46 ex Y48
   subst ex
   try dsimp only at hb
   have hb := Option.some.inj hb
   subst hb
   refine Tw ?_
   exact endI rfl
def G_burinlaw07_LexLines (s_2 : Bytes) : Option (Bool) :=
 G_burinlaw07_shown  >>= fun r4 =>
 subT s_2 (if (5000 : Int) < ((List.length s_2 : Nat) : Int) then (5000 : Int) else ((List.length s_2 : Nat) : Int)) >>= fun t6 =>
 G_burinlaw07_lexed t6 >>= fun r7 =>
 G_lex_Words r7 >>= fun (r13, r18, r19, r20) =>
 G_burinref07_Words r7 >>= fun (r22, r27, r28, r29) =>
 if r4 then
  G_burinref07_Same r13 r22 >>= fun r32 =>
  if r32 then
   if (r18 == r27) then
    if (r19 == r28) then
     if (r20 == r29) then
      G_lex_IsKey s_2 >>= fun r38 =>
      G_burinref07_IsKey s_2 >>= fun r40 =>
      some (r38 == r40)
     else
      some false
    else
     some false
   else
    some false
  else
   some false
 else
  some false
theorem G_burinlaw07_LexLines_ok {s_2 : Bytes} {r3 : Bool} (hx : G_burinlaw07_LexLines s_2 = some r3) : PureE E 4 [(.str s_2)] (fun v => v = (.bool r3)) := by
 refine pureE_ok fn_burinlaw07_LexLines rfl ?_
 have hb := hx
 dsimp only [G_burinlaw07_LexLines] at hb
 have X := True.intro
 refine Tw ?_
 refine bnd1 hb (fun r4 h5 hb => ?_)
 refine pq_eq (G_burinlaw07_shown_ok h5) ?_
 refine Tw ?_
 refine vq_subTs hb (fun t6 ht6 hb => ?_)
 refine Tw ?_
 refine bnd1 hb (fun r7 h12 hb => ?_)
 refine pq_in1 (G_burinlaw07_lexed_ok h12) (fun o8 e9 M10 s11 => ?_)
 have X := And.intro s11.len X
 refine Tw ?_
 refine bnd4 hb (fun r13 r18 r19 r20 h21 hb => ?_)
 try dsimp only at hb
 refine pq_in1 (G_lex_Words_ok h21 s11.st) (fun o14 e15 M16 s17 => ?_)
 have X := And.intro s17.len X
 refine Tw ?_
 refine bnd4 hb (fun r22 r27 r28 r29 h30 hb => ?_)
 try dsimp only at hb
 refine pq_in1 (G_burinref07_Words_ok h30 s11.st) (fun o23 e24 M25 s26 => ?_)
 have X := And.intro s26.len X
 refine Tw ?_
 refine bq_if hb rfl (fun c31 hb => ?_) (fun c31 hb => ?_)
 ·have X := And.intro c31 X
  refine Tw ?_
  refine bnd1 hb (fun r32 h33 hb => ?_)
  refine pq_eq (G_burinref07_Same_ok h33 s17.st s26.st) ?_
  refine Tw ?_
  refine bq_if hb rfl (fun c34 hb => ?_) (fun c34 hb => ?_)
  ·have X := And.intro c34 X
   refine Tw ?_
   refine bq_if hb rfl (fun c35 hb => ?_) (fun c35 hb => ?_)
   ·have X := And.intro c35 X
    refine Tw ?_
    refine bq_if hb rfl (fun c36 hb => ?_) (fun c36 hb => ?_)
    ·have X := And.intro c36 X
     refine Tw ?_
     refine bq_if hb rfl (fun c37 hb => ?_) (fun c37 hb => ?_)
     ·have X := And.intro c37 X
      refine Tw ?_
      refine bnd1 hb (fun r38 h39 hb => ?_)
      refine pq_eq (G_lex_IsKey_ok h39) ?_
      refine Tw ?_
      refine bnd1 hb (fun r40 h41 hb => ?_)
      refine pq_eq (G_burinref07_IsKey_ok h41) ?_
      have hb := Option.some.inj hb
      subst hb
      refine Tw ?_
      exact endI rfl
     ·have hb := Option.some.inj hb
      subst hb
      have X := And.intro c37 X
      refine Tw ?_
      exact endI rfl
    ·have hb := Option.some.inj hb
     subst hb
     have X := And.intro c36 X
     refine Tw ?_
     exact endI rfl
   ·have hb := Option.some.inj hb
    subst hb
    have X := And.intro c35 X
    refine Tw ?_
    exact endI rfl
  ·have hb := Option.some.inj hb
   subst hb
   have X := And.intro c34 X
   refine Tw ?_
   exact endI rfl
 ·have hb := Option.some.inj hb
  subst hb
  have X := And.intro c31 X
  refine Tw ?_
  exact endI rfl
end Go.Proofs.YtmngkcpobmhnoaaGreatDoor.Sim
