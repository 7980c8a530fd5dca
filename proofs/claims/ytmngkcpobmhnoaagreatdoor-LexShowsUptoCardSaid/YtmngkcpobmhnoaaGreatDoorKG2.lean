/- Printed functions, continued. -/
import Derived.Test.YtmngkcpobmhnoaaGreatDoorKG1
set_option linter.all false
set_option maxHeartbeats 4000000
set_option maxRecDepth 20000
namespace Go.Proofs.YtmngkcpobmhnoaaGreatDoor.Sim
def G_lex_Right (w_2 : T_api_Word) : Option (Bool) :=
 if (w_2.Kind_ == (3 : Int)) then
  if (w_2.S_ == ([] : Bytes)) then
   G_lex_lies w_2.V_ w_2.T_ >>= fun r8 =>
   some r8
  else
   some false
 else
  (
   if (!(w_2.V_ == (0 : Int))) then
    some (Ex2.a false)
   else
    if (!(w_2.T_ == (0 : Int))) then
     some (Ex2.a false)
    else
     some (Ex2.b ())
  ) >>= fun j23 => match j23 with
   | .a q => some q
   | .b () =>
    if (w_2.Kind_ == (4 : Int)) then
     some (decide (((List.length w_2.S_ : Nat) : Int) ≤ (4096 : Int)))
    else
     G_token_One w_2.S_ >>= fun (r27, r28) =>
     if (w_2.Kind_ == (1 : Int)) then
      G_lex_IsKey w_2.S_ >>= fun r34 =>
      some r34
     else
      if (w_2.Kind_ == (2 : Int)) then
       if r28 then
        if (r27.Kind_ == (1 : Int)) then
         G_lex_IsKey w_2.S_ >>= fun r39 =>
         some (!r39)
        else
         some false
       else
        some false
      else
       if (w_2.Kind_ == (5 : Int)) then
        if r28 then
         if (r27.Kind_ == (5 : Int)) then
          idx w_2.S_ (0 : Int) >>= fun x44 =>
          some (!((x44.toNat : Int) == (35 : Int)))
         else
          some false
        else
         some false
       else
        some false
theorem G_lex_Right_ok {w_2 : T_api_Word} {r3 : Bool} (hx : G_lex_Right w_2 = some r3) : PureE E 31 [(.agg [(.int .i64 w_2.Kind_), (.str w_2.S_), (.int .i64 w_2.V_), (.int .i64 w_2.T_), (.str w_2.File_), (.int .i64 w_2.Line_)])] (fun v => v = (.bool r3)) := by
 refine pureE_ok fn_lex_Right rfl ?_
 have hb := hx
 dsimp only [G_lex_Right] at hb
 have X := True.intro
 refine Tw ?_
 refine bq_if hb rfl (fun c6 hb => ?_) (fun c6 hb => ?_)
 ·have X := And.intro c6 X
  refine Tw ?_
  refine bq_if hb rfl (fun c7 hb => ?_) (fun c7 hb => ?_)
  ·have X := And.intro c7 X
   refine Tw ?_
   refine bnd1 hb (fun r8 h9 hb => ?_)
   refine pq_eq (G_lex_lies_ok h9) ?_
   have hb := Option.some.inj hb
   subst hb
   refine Tw ?_
   exact endI rfl
  ·have hb := Option.some.inj hb
   subst hb
   have X := And.intro c7 X
   refine Tw ?_
   exact endI rfl
 ·have X := And.intro c6 X
  refine Tw ?_
  refine bnd1 hb (fun j23 hj hb => ?_)
  refine wq_join (fun Z => ∀ (f17 : Fr) (h18 : Heap), Ex2.b () = j23 → (f17 1 = (.ptr 0 0) ∧ h18.box 0 = some [(.int .i64 w_2.Kind_), (.str w_2.S_), (.int .i64 w_2.V_), (.int .i64 w_2.T_), (.str w_2.File_), (.int .i64 w_2.Line_)]) → (0 < h18.n) → Z f17 h18) (fun Z hX12 => ?_) ?_
  ·have hr11 := hb
   clear hb
   have hb := hj
   clear hj
   refine wq_def J_lex_Right_1.eq_1 ?_
   refine Tw ?_
   refine Tw ?_
   refine bq_if hb rfl (fun c13 hb => ?_) (fun c13 hb => ?_)
   ·have hq := Option.some.inj hb
    subst hq
    try dsimp only at hr11
    have hb := hr11
    have hb := Option.some.inj hb
    subst hb
    have X := And.intro c13 X
    refine Tw ?_
    exact endI rfl
   ·have X := And.intro c13 X
    refine Tw ?_
    refine bq_if hb rfl (fun c15 hb => ?_) (fun c15 hb => ?_)
    ·have hq := Option.some.inj hb
     subst hq
     try dsimp only at hr11
     have hb := hr11
     have hb := Option.some.inj hb
     subst hb
     have X := And.intro c15 X
     refine Tw ?_
     exact endI rfl
    ·have hb := Option.some.inj hb
     subst hb
     have X := And.intro c15 X
     refine Tw ?_
     exact hX12 _ _ rfl Cw Cn
  ·intro f17 h18 ej Y19 Y21
   subst ej
   try dsimp only at hb
   have X := And.intro Y19 X
   refine Tw ?_
   refine bq_if hb rfl (fun c26 hb => ?_) (fun c26 hb => ?_)
   ·have hb := Option.some.inj hb
    subst hb
    have X := And.intro c26 X
    refine Tw ?_
    exact endI rfl
   ·have X := And.intro c26 X
    refine Tw ?_
    refine bnd2 hb (fun r27 r28 h29 hb => ?_)
    try dsimp only at hb
    refine pq_eq (G_token_One_ok h29) ?_
    refine Tw ?_
    refine bq_if hb rfl (fun c33 hb => ?_) (fun c33 hb => ?_)
    ·have X := And.intro c33 X
     refine Tw ?_
     refine bnd1 hb (fun r34 h35 hb => ?_)
     refine pq_eq (G_lex_IsKey_ok h35) ?_
     have hb := Option.some.inj hb
     subst hb
     refine Tw ?_
     exact endI rfl
    ·have X := And.intro c33 X
     refine Tw ?_
     refine bq_if hb rfl (fun c36 hb => ?_) (fun c36 hb => ?_)
     ·have X := And.intro c36 X
      refine Tw ?_
      refine bq_if hb rfl (fun c37 hb => ?_) (fun c37 hb => ?_)
      ·have X := And.intro c37 X
       refine Tw ?_
       refine bq_if hb rfl (fun c38 hb => ?_) (fun c38 hb => ?_)
       ·have X := And.intro c38 X
        refine Tw ?_
        refine bnd1 hb (fun r39 h40 hb => ?_)
        refine pq_eq (G_lex_IsKey_ok h40) ?_
        have hb := Option.some.inj hb
        subst hb
        refine Tw ?_
        exact endI rfl
       ·have hb := Option.some.inj hb
        subst hb
        have X := And.intro c38 X
        refine Tw ?_
        exact endI rfl
      ·have hb := Option.some.inj hb
       subst hb
       have X := And.intro c37 X
       refine Tw ?_
       exact endI rfl
     ·have X := And.intro c36 X
      refine Tw ?_
      refine bq_if hb rfl (fun c41 hb => ?_) (fun c41 hb => ?_)
      ·have X := And.intro c41 X
       refine Tw ?_
       refine bq_if hb rfl (fun c42 hb => ?_) (fun c42 hb => ?_)
       ·have X := And.intro c42 X
        refine Tw ?_
        refine bq_if hb rfl (fun c43 hb => ?_) (fun c43 hb => ?_)
        ·have X := And.intro c43 X
         refine Tw ?_
         refine vq_idxS hb (fun x44 hx44 hb => ?_)
         have hb := Option.some.inj hb
         subst hb
         refine Tw ?_
         exact endI rfl
        ·have hb := Option.some.inj hb
         subst hb
         have X := And.intro c43 X
         refine Tw ?_
         exact endI rfl
       ·have hb := Option.some.inj hb
        subst hb
        have X := And.intro c42 X
        refine Tw ?_
        exact endI rfl
      ·have hb := Option.some.inj hb
       subst hb
       have X := And.intro c41 X
       refine Tw ?_
       exact endI rfl
def G_burinref02_blank (c_2 : Int) : Option (Bool) :=
 if (c_2 == (32 : Int)) then
  some true
 else
  if (c_2 == (9 : Int)) then
   some true
  else
   if (c_2 == (11 : Int)) then
    some true
   else
    some (c_2 == (12 : Int))
theorem G_burinref02_blank_ok {c_2 : Int} {r3 : Bool} (hx : G_burinref02_blank c_2 = some r3) : PureE E 145 [(.int .u8 c_2)] (fun v => v = (.bool r3)) := by
 refine pureE_ok fn_burinref02_blank rfl ?_
 have hb := hx
 dsimp only [G_burinref02_blank] at hb
 have X := True.intro
 refine Tw ?_
 refine bq_if hb rfl (fun c4 hb => ?_) (fun c4 hb => ?_)
 ·have hb := Option.some.inj hb
  subst hb
  have X := And.intro c4 X
  refine Tw ?_
  exact endI rfl
 ·have X := And.intro c4 X
  refine Tw ?_
  refine bq_if hb rfl (fun c5 hb => ?_) (fun c5 hb => ?_)
  ·have hb := Option.some.inj hb
   subst hb
   have X := And.intro c5 X
   refine Tw ?_
   exact endI rfl
  ·have X := And.intro c5 X
   refine Tw ?_
   refine bq_if hb rfl (fun c6 hb => ?_) (fun c6 hb => ?_)
   ·have hb := Option.some.inj hb
    subst hb
    have X := And.intro c6 X
    refine Tw ?_
    exact endI rfl
   ·have hb := Option.some.inj hb
    subst hb
    have X := And.intro c6 X
    refine Tw ?_
    exact endI rfl
def G_burinref02_letter (c_2 : Int) : Option (Bool) :=
 if (decide ((97 : Int) ≤ c_2)) then
  if (decide (c_2 ≤ (122 : Int))) then
   some true
  else
   if (decide ((65 : Int) ≤ c_2)) then
    if (decide (c_2 ≤ (90 : Int))) then
     some true
    else
     some (c_2 == (95 : Int))
   else
    some (c_2 == (95 : Int))
 else
  if (decide ((65 : Int) ≤ c_2)) then
   if (decide (c_2 ≤ (90 : Int))) then
    some true
   else
    some (c_2 == (95 : Int))
  else
   some (c_2 == (95 : Int))
theorem G_burinref02_letter_ok {c_2 : Int} {r3 : Bool} (hx : G_burinref02_letter c_2 = some r3) : PureE E 186 [(.int .u8 c_2)] (fun v => v = (.bool r3)) := by
 refine pureE_ok fn_burinref02_letter rfl ?_
 have hb := hx
 dsimp only [G_burinref02_letter] at hb
 have X := True.intro
 refine Tw ?_
 refine bq_if hb rfl (fun c4 hb => ?_) (fun c4 hb => ?_)
 ·have X := And.intro c4 X
  refine Tw ?_
  refine bq_if hb rfl (fun c5 hb => ?_) (fun c5 hb => ?_)
  ·have hb := Option.some.inj hb
   subst hb
   have X := And.intro c5 X
   refine Tw ?_
   exact endI rfl
  ·have X := And.intro c5 X
   refine Tw ?_
   refine bq_if hb rfl (fun c6 hb => ?_) (fun c6 hb => ?_)
   ·have X := And.intro c6 X
    refine Tw ?_
    refine bq_if hb rfl (fun c7 hb => ?_) (fun c7 hb => ?_)
    ·have hb := Option.some.inj hb
     subst hb
     have X := And.intro c7 X
     refine Tw ?_
     exact endI rfl
    ·have hb := Option.some.inj hb
     subst hb
     have X := And.intro c7 X
     refine Tw ?_
     exact endI rfl
   ·have hb := Option.some.inj hb
    subst hb
    have X := And.intro c6 X
    refine Tw ?_
    exact endI rfl
 ·have X := And.intro c4 X
  refine Tw ?_
  refine bq_if hb rfl (fun c8 hb => ?_) (fun c8 hb => ?_)
  ·have X := And.intro c8 X
   refine Tw ?_
   refine bq_if hb rfl (fun c9 hb => ?_) (fun c9 hb => ?_)
   ·have hb := Option.some.inj hb
    subst hb
    have X := And.intro c9 X
    refine Tw ?_
    exact endI rfl
   ·have hb := Option.some.inj hb
    subst hb
    have X := And.intro c9 X
    refine Tw ?_
    exact endI rfl
  ·have hb := Option.some.inj hb
   subst hb
   have X := And.intro c8 X
   refine Tw ?_
   exact endI rfl
def G_burinref02_digit (c_2 : Int) : Option (Bool) :=
 if (decide ((48 : Int) ≤ c_2)) then
  some (decide (c_2 ≤ (57 : Int)))
 else
  some false
theorem G_burinref02_digit_ok {c_2 : Int} {r3 : Bool} (hx : G_burinref02_digit c_2 = some r3) : PureE E 187 [(.int .u8 c_2)] (fun v => v = (.bool r3)) := by
 refine pureE_ok fn_burinref02_digit rfl ?_
 have hb := hx
 dsimp only [G_burinref02_digit] at hb
 have X := True.intro
 refine Tw ?_
 refine bq_if hb rfl (fun c4 hb => ?_) (fun c4 hb => ?_)
 ·have hb := Option.some.inj hb
  subst hb
  have X := And.intro c4 X
  refine Tw ?_
  exact endI rfl
 ·have hb := Option.some.inj hb
  subst hb
  have X := And.intro c4 X
  refine Tw ?_
  exact endI rfl
def G_burinref02_name_L1 (s_21 : Bytes) : Int → Option ((Int) ⊕ (Int)) := fun n_22 =>
 if (decide (n_22 < ((List.length s_21 : Nat) : Int))) then
  idx s_21 n_22 >>= fun x33 =>
  G_burinref02_letter (x33.toNat : Int) >>= fun r34 =>
  if r34 then
   some (Sum.inl (IntKind.wrap .i64 (n_22 + (1 : Int))))
  else
   idx s_21 n_22 >>= fun x37 =>
   G_burinref02_digit (x37.toNat : Int) >>= fun r38 =>
   if r38 then
    some (Sum.inl (IntKind.wrap .i64 (n_22 + (1 : Int))))
   else
    some (Sum.inr n_22)
 else
  some (Sum.inr n_22)
theorem G_burinref02_name_L1_ok {κ : Kt} {t : Blk κ} {s_21 : Bytes} {h24 : Heap} (n_22 : Int) (x : Int) (hx : loopO (G_burinref02_name_L1 s_21) n_22 = some x) (hh : True) (ho : True) : ∀ (f23 : Fr), (f23 0 = (.str s_21) ∧ f23 3 = (.int .i64 n_22)) → (∀ (f42 : Fr) (n_41 : Int), n_41 = x → (f42 3 = (.int .i64 n_41)) → κ.B 0 f42 h24) → Lq E (.loop L_burinref02_name_1) κ t f23 h24 := by
 revert n_22 x
 refine loop1' ?_
 intro n_22 r hb x hn f23  Y25  ex0
 dsimp only [G_burinref02_name_L1] at hb
 refine loop_step L_burinref02_name_1.eq_1 ?_
 have X := Y25
 refine Tw ?_
 refine Tw ?_
 refine bq_if hb rfl (fun c32 hb => ?_) (fun c32 hb => ?_)
 ·have X := And.intro c32 X
  refine Tw ?_
  refine vq_idxS hb (fun x33 hx33 hb => ?_)
  refine Tw ?_
  refine bnd1 hb (fun r34 h35 hb => ?_)
  refine pq_eq (G_burinref02_letter_ok h35) ?_
  refine Tw ?_
  refine bq_if hb rfl (fun c36 hb => ?_) (fun c36 hb => ?_)
  ·have hb := Option.some.inj hb
   subst hb
   have X := And.intro c36 X
   refine Tw ?_
   exact hn _  Cw ex0
  ·have X := And.intro c36 X
   refine Tw ?_
   refine vq_idxS hb (fun x37 hx37 hb => ?_)
   refine Tw ?_
   refine bnd1 hb (fun r38 h39 hb => ?_)
   refine pq_eq (G_burinref02_digit_ok h39) ?_
   refine Tw ?_
   refine bq_if hb rfl (fun c40 hb => ?_) (fun c40 hb => ?_)
   ·have hb := Option.some.inj hb
    subst hb
    have X := And.intro c40 X
    refine Tw ?_
    exact hn _  Cw ex0
   ·have hb := Option.some.inj hb
    subst hb
    have hn : _ = _ := hn
    subst hn
    have X := And.intro c40 X
    refine Tw ?_
    exact ex0 _ n_22 rfl Cw
 ·have hb := Option.some.inj hb
  subst hb
  have hn : _ = _ := hn
  subst hn
  have X := And.intro c32 X
  refine Tw ?_
  exact ex0 _ n_22 rfl Cw
def G_burinref02_name (s_2 : Bytes) : Option (Int) :=
 (
  if (((List.length s_2 : Nat) : Int) == (0 : Int)) then
   some (Ex2.a (0 : Int))
  else
   idx s_2 (0 : Int) >>= fun x9 =>
   G_burinref02_letter (x9.toNat : Int) >>= fun r10 =>
   if (!r10) then
    some (Ex2.a (0 : Int))
   else
    some (Ex2.b ())
 ) >>= fun j19 => match j19 with
  | .a q => some q
  | .b () =>
   loopO (G_burinref02_name_L1 s_2) (1 : Int) >>= fun n_41 =>
   some n_41
theorem G_burinref02_name_ok {s_2 : Bytes} {r3 : Int} (hx : G_burinref02_name s_2 = some r3) : PureE E 165 [(.str s_2)] (fun v => v = (.int .i64 r3)) := by
 refine pureE_ok fn_burinref02_name rfl ?_
 have hb := hx
 dsimp only [G_burinref02_name] at hb
 have X := True.intro
 refine Tw ?_
 refine bnd1 hb (fun j19 hj hb => ?_)
 refine wq_joinF (fun Z => ∀ (f14 : Fr), Ex2.b () = j19 → (f14 0 = (.str s_2)) → Z f14) (fun Z hX6 => ?_) ?_
 ·have hr5 := hb
  clear hb
  have hb := hj
  clear hj
  refine wq_def J_burinref02_name_1.eq_1 ?_
  refine Tw ?_
  refine Tw ?_
  refine bq_if hb rfl (fun c7 hb => ?_) (fun c7 hb => ?_)
  ·have hq := Option.some.inj hb
   subst hq
   try dsimp only at hr5
   have hb := hr5
   have hb := Option.some.inj hb
   subst hb
   have X := And.intro c7 X
   refine Tw ?_
   exact endI rfl
  ·have X := And.intro c7 X
   refine Tw ?_
   refine vq_idxS hb (fun x9 hx9 hb => ?_)
   refine Tw ?_
   refine bnd1 hb (fun r10 h11 hb => ?_)
   refine pq_eq (G_burinref02_letter_ok h11) ?_
   refine Tw ?_
   refine bq_if hb rfl (fun c12 hb => ?_) (fun c12 hb => ?_)
   ·have hq := Option.some.inj hb
    subst hq
    try dsimp only at hr5
    have hb := hr5
    have hb := Option.some.inj hb
    subst hb
    have X := And.intro c12 X
    refine Tw ?_
    exact endI rfl
   ·have hb := Option.some.inj hb
    subst hb
    have X := And.intro c12 X
    refine Tw ?_
    exact hX6 _ rfl Cw
 ·intro f14 ej Y16
  subst ej
  try dsimp only at hb
  have X := And.intro Y16 X
  refine Tw ?_
  refine bnd1 hb (fun q47 h48 hb => ?_)
  refine G_burinref02_name_L1_ok _ _ h48 trivial trivial _ Cw ?_
  ·intro f42 n_41 ex Y44
   subst ex
   have hb := Option.some.inj hb
   subst hb
   have X := And.intro Y44 X
   refine Tw ?_
   exact endI rfl
def G_burinref02_number_L1 (s_40 : Bytes) : Int → Option ((Int) ⊕ (Int)) := fun n_41 =>
 (
  if (decide ((0 : Int) < n_41)) then
   if (decide (n_41 < ((List.length s_40 : Nat) : Int))) then
    some (Ex2.b ())
   else
    some (Ex2.a (Sum.inr n_41))
  else
   some (Ex2.a (Sum.inr n_41))
 ) >>= fun j63 => match j63 with
  | .a q => some q
  | .b () =>
   (
    idx s_40 (IntKind.wrap .i64 (n_41 - (1 : Int))) >>= fun x69 =>
    if ((x69.toNat : Int) == (101 : Int)) then
     some true
    else
     idx s_40 (IntKind.wrap .i64 (n_41 - (1 : Int))) >>= fun x71 =>
     if ((x71.toNat : Int) == (69 : Int)) then
      some true
     else
      idx s_40 (IntKind.wrap .i64 (n_41 - (1 : Int))) >>= fun x73 =>
      if ((x73.toNat : Int) == (112 : Int)) then
       some true
      else
       idx s_40 (IntKind.wrap .i64 (n_41 - (1 : Int))) >>= fun x75 =>
       some ((x75.toNat : Int) == (80 : Int))
   ) >>= fun exp_76 =>
   idx s_40 n_41 >>= fun x86 =>
   G_burinref02_letter (x86.toNat : Int) >>= fun r87 =>
   if (!r87) then
    idx s_40 n_41 >>= fun x90 =>
    G_burinref02_digit (x90.toNat : Int) >>= fun r91 =>
    if (!r91) then
     idx s_40 n_41 >>= fun x94 =>
     if (!((x94.toNat : Int) == (46 : Int))) then
      if exp_76 then
       idx s_40 n_41 >>= fun x97 =>
       if ((x97.toNat : Int) == (43 : Int)) then
        some (Sum.inl (IntKind.wrap .i64 (n_41 + (1 : Int))))
       else
        idx s_40 n_41 >>= fun x99 =>
        if (!((x99.toNat : Int) == (45 : Int))) then
         some (Sum.inr n_41)
        else
         some (Sum.inl (IntKind.wrap .i64 (n_41 + (1 : Int))))
      else
       some (Sum.inr n_41)
     else
      some (Sum.inl (IntKind.wrap .i64 (n_41 + (1 : Int))))
    else
     some (Sum.inl (IntKind.wrap .i64 (n_41 + (1 : Int))))
   else
    some (Sum.inl (IntKind.wrap .i64 (n_41 + (1 : Int))))
theorem G_burinref02_number_L1_ok {κ : Kt} {t : Blk κ} {s_40 : Bytes} {h43 : Heap} (n_41 : Int) (x : Int) (hx : loopO (G_burinref02_number_L1 s_40) n_41 = some x) (hh : True) (ho : True) : ∀ (f42 : Fr), (f42 0 = (.str s_40) ∧ f42 3 = (.int .i64 n_41)) → (∀ (f102 : Fr) (n_101 : Int), n_101 = x → (f102 3 = (.int .i64 n_101)) → κ.B 0 f102 h43) → Lq E (.loop L_burinref02_number_1) κ t f42 h43 := by
 revert n_41 x
 refine loop1' ?_
 intro n_41 r hb x hn f42  Y44  ex0
 dsimp only [G_burinref02_number_L1] at hb
 refine loop_step L_burinref02_number_1.eq_1 ?_
 have X := Y44
 refine Tw ?_
 refine Tw ?_
 refine bnd1 hb (fun j63 hj hb => ?_)
 refine wq_joinF (fun Z => ∀ (f58 : Fr), Ex2.b () = j63 → (f58 0 = (.str s_40) ∧ f58 3 = (.int .i64 n_41)) → Z f58) (fun Z hX53 => ?_) ?_
 ·have hr52 := hb
  clear hb
  have hb := hj
  clear hj
  refine wq_def J_burinref02_number_3.eq_1 ?_
  refine Tw ?_
  refine Tw ?_
  refine bq_if hb rfl (fun c54 hb => ?_) (fun c54 hb => ?_)
  ·have X := And.intro c54 X
   refine Tw ?_
   refine bq_if hb rfl (fun c55 hb => ?_) (fun c55 hb => ?_)
   ·have hb := Option.some.inj hb
    subst hb
    have X := And.intro c55 X
    refine Tw ?_
    exact hX53 _ rfl Cw
   ·have hq := Option.some.inj hb
    subst hq
    try dsimp only at hr52
    have hb := hr52
    have hb := Option.some.inj hb
    subst hb
    have hn : _ = _ := hn
    subst hn
    have X := And.intro c55 X
    refine Tw ?_
    exact ex0 _ n_41 rfl Cw
  ·have hq := Option.some.inj hb
   subst hq
   try dsimp only at hr52
   have hb := hr52
   have hb := Option.some.inj hb
   subst hb
   have hn : _ = _ := hn
   subst hn
   have X := And.intro c54 X
   refine Tw ?_
   exact ex0 _ n_41 rfl Cw
 ·intro f58 ej Y60
  subst ej
  try dsimp only at hb
  have X := And.intro Y60 X
  refine Tw ?_
  refine bnd1 hb (fun j82 hj hb => ?_)
  refine wq_joinF (fun Z => ∀ (f77 : Fr) (exp_76 : Bool), exp_76 = j82 → (f77 0 = (.str s_40) ∧ f77 3 = (.int .i64 n_41) ∧ f77 4 = (.bool exp_76)) → Z f77) (fun Z hX68 => ?_) ?_
  ·have hr67 := hb
   clear hb
   have hb := hj
   clear hj
   refine wq_def J_burinref02_number_4.eq_1 ?_
   refine Tw ?_
   refine Tw ?_
   refine vq_idxS hb (fun x69 hx69 hb => ?_)
   refine Tw ?_
   refine bq_if hb rfl (fun c70 hb => ?_) (fun c70 hb => ?_)
   ·have hb := Option.some.inj hb
    subst hb
    have X := And.intro c70 X
    refine Tw ?_
    exact hX68 _ true rfl Cw
   ·have X := And.intro c70 X
    refine Tw ?_
    refine vq_idxS hb (fun x71 hx71 hb => ?_)
    refine Tw ?_
    refine bq_if hb rfl (fun c72 hb => ?_) (fun c72 hb => ?_)
    ·have hb := Option.some.inj hb
     subst hb
     have X := And.intro c72 X
     refine Tw ?_
     exact hX68 _ true rfl Cw
    ·have X := And.intro c72 X
     refine Tw ?_
     refine vq_idxS hb (fun x73 hx73 hb => ?_)
     refine Tw ?_
     refine bq_if hb rfl (fun c74 hb => ?_) (fun c74 hb => ?_)
     ·have hb := Option.some.inj hb
      subst hb
      have X := And.intro c74 X
      refine Tw ?_
      exact hX68 _ true rfl Cw
     ·have X := And.intro c74 X
      refine Tw ?_
      refine vq_idxS hb (fun x75 hx75 hb => ?_)
      have hb := Option.some.inj hb
      subst hb
      refine Tw ?_
      exact hX68 _ ((x75.toNat : Int) == (80 : Int)) rfl Cw
  ·intro f77 exp_76 ej Y79
   subst ej
   try dsimp only at hb
   have X := And.intro Y79 X
   refine Tw ?_
   refine vq_idxS hb (fun x86 hx86 hb => ?_)
   refine Tw ?_
   refine bnd1 hb (fun r87 h88 hb => ?_)
   refine pq_eq (G_burinref02_letter_ok h88) ?_
   refine Tw ?_
   refine bq_if hb rfl (fun c89 hb => ?_) (fun c89 hb => ?_)
   ·have X := And.intro c89 X
    refine Tw ?_
    refine vq_idxS hb (fun x90 hx90 hb => ?_)
    refine Tw ?_
    refine bnd1 hb (fun r91 h92 hb => ?_)
    refine pq_eq (G_burinref02_digit_ok h92) ?_
    refine Tw ?_
    refine bq_if hb rfl (fun c93 hb => ?_) (fun c93 hb => ?_)
    ·have X := And.intro c93 X
     refine Tw ?_
     refine vq_idxS hb (fun x94 hx94 hb => ?_)
     refine Tw ?_
     refine bq_if hb rfl (fun c95 hb => ?_) (fun c95 hb => ?_)
     ·have X := And.intro c95 X
      refine Tw ?_
      refine bq_if hb rfl (fun c96 hb => ?_) (fun c96 hb => ?_)
      ·have X := And.intro c96 X
       refine Tw ?_
       refine vq_idxS hb (fun x97 hx97 hb => ?_)
       refine Tw ?_
       refine bq_if hb rfl (fun c98 hb => ?_) (fun c98 hb => ?_)
       ·have hb := Option.some.inj hb
        subst hb
        have X := And.intro c98 X
        refine Tw ?_
        exact hn _  Cw ex0
       ·have X := And.intro c98 X
        refine Tw ?_
        refine vq_idxS hb (fun x99 hx99 hb => ?_)
        refine Tw ?_
        refine bq_if hb rfl (fun c100 hb => ?_) (fun c100 hb => ?_)
        ·have hb := Option.some.inj hb
         subst hb
         have hn : _ = _ := hn
         subst hn
         have X := And.intro c100 X
         refine Tw ?_
         exact ex0 _ n_41 rfl Cw
        ·have hb := Option.some.inj hb
         subst hb
         have X := And.intro c100 X
         refine Tw ?_
         exact hn _  Cw ex0
      ·have hb := Option.some.inj hb
       subst hb
       have hn : _ = _ := hn
       subst hn
       have X := And.intro c96 X
       refine Tw ?_
       exact ex0 _ n_41 rfl Cw
     ·have hb := Option.some.inj hb
      subst hb
      have X := And.intro c95 X
      refine Tw ?_
      exact hn _  Cw ex0
    ·have hb := Option.some.inj hb
     subst hb
     have X := And.intro c93 X
     refine Tw ?_
     exact hn _  Cw ex0
   ·have hb := Option.some.inj hb
    subst hb
    have X := And.intro c89 X
    refine Tw ?_
    exact hn _  Cw ex0
def G_burinref02_number (s_2 : Bytes) : Option (Int) :=
 (
  if (decide ((0 : Int) < ((List.length s_2 : Nat) : Int))) then
   idx s_2 (0 : Int) >>= fun x8 =>
   G_burinref02_digit (x8.toNat : Int) >>= fun r9 =>
   if r9 then
    some (1 : Int)
   else
    some (0 : Int)
  else
   some (0 : Int)
 ) >>= fun n_12 =>
 (
  if (decide ((1 : Int) < ((List.length s_2 : Nat) : Int))) then
   idx s_2 (0 : Int) >>= fun x25 =>
   if ((x25.toNat : Int) == (46 : Int)) then
    idx s_2 (1 : Int) >>= fun x27 =>
    G_burinref02_digit (x27.toNat : Int) >>= fun r28 =>
    if r28 then
     some (2 : Int)
    else
     some n_12
   else
    some n_12
  else
   some n_12
 ) >>= fun n_31 =>
 loopO (G_burinref02_number_L1 s_2) n_31 >>= fun n_101 =>
 some n_101
theorem G_burinref02_number_ok {s_2 : Bytes} {r3 : Int} (hx : G_burinref02_number s_2 = some r3) : PureE E 166 [(.str s_2)] (fun v => v = (.int .i64 r3)) := by
 refine pureE_ok fn_burinref02_number rfl ?_
 have hb := hx
 dsimp only [G_burinref02_number] at hb
 have X := True.intro
 refine Tw ?_
 refine bnd1 hb (fun j18 hj hb => ?_)
 refine wq_joinF (fun Z => ∀ (f13 : Fr) (n_12 : Int), n_12 = j18 → (f13 0 = (.str s_2) ∧ f13 3 = (.int .i64 n_12)) → Z f13) (fun Z hX6 => ?_) ?_
 ·have hr5 := hb
  clear hb
  have hb := hj
  clear hj
  refine wq_def J_burinref02_number_1.eq_1 ?_
  refine Tw ?_
  refine Tw ?_
  refine bq_if hb rfl (fun c7 hb => ?_) (fun c7 hb => ?_)
  ·have X := And.intro c7 X
   refine Tw ?_
   refine vq_idxS hb (fun x8 hx8 hb => ?_)
   refine Tw ?_
   refine bnd1 hb (fun r9 h10 hb => ?_)
   refine pq_eq (G_burinref02_digit_ok h10) ?_
   refine Tw ?_
   refine bq_if hb rfl (fun c11 hb => ?_) (fun c11 hb => ?_)
   ·have hb := Option.some.inj hb
    subst hb
    have X := And.intro c11 X
    refine Tw ?_
    exact hX6 _ (1 : Int) rfl Cw
   ·have hb := Option.some.inj hb
    subst hb
    have X := And.intro c11 X
    refine Tw ?_
    exact hX6 _ (0 : Int) rfl Cw
  ·have hb := Option.some.inj hb
   subst hb
   have X := And.intro c7 X
   refine Tw ?_
   exact hX6 _ (0 : Int) rfl Cw
 ·intro f13 n_12 ej Y15
  subst ej
  try dsimp only at hb
  have X := And.intro Y15 X
  refine Tw ?_
  refine bnd1 hb (fun j37 hj hb => ?_)
  refine wq_joinF (fun Z => ∀ (f32 : Fr) (n_31 : Int), n_31 = j37 → (f32 0 = (.str s_2) ∧ f32 3 = (.int .i64 n_31)) → Z f32) (fun Z hX23 => ?_) ?_
  ·have hr22 := hb
   clear hb
   have hb := hj
   clear hj
   refine wq_def J_burinref02_number_2.eq_1 ?_
   refine Tw ?_
   refine Tw ?_
   refine bq_if hb rfl (fun c24 hb => ?_) (fun c24 hb => ?_)
   ·have X := And.intro c24 X
    refine Tw ?_
    refine vq_idxS hb (fun x25 hx25 hb => ?_)
    refine Tw ?_
    refine bq_if hb rfl (fun c26 hb => ?_) (fun c26 hb => ?_)
    ·have X := And.intro c26 X
     refine Tw ?_
     refine vq_idxS hb (fun x27 hx27 hb => ?_)
     refine Tw ?_
     refine bnd1 hb (fun r28 h29 hb => ?_)
     refine pq_eq (G_burinref02_digit_ok h29) ?_
     refine Tw ?_
     refine bq_if hb rfl (fun c30 hb => ?_) (fun c30 hb => ?_)
     ·have hb := Option.some.inj hb
      subst hb
      have X := And.intro c30 X
      refine Tw ?_
      exact hX23 _ (2 : Int) rfl Cw
     ·have hb := Option.some.inj hb
      subst hb
      have X := And.intro c30 X
      refine Tw ?_
      exact hX23 _ n_12 rfl Cw
    ·have hb := Option.some.inj hb
     subst hb
     have X := And.intro c26 X
     refine Tw ?_
     exact hX23 _ n_12 rfl Cw
   ·have hb := Option.some.inj hb
    subst hb
    have X := And.intro c24 X
    refine Tw ?_
    exact hX23 _ n_12 rfl Cw
  ·intro f32 n_31 ej Y34
   subst ej
   try dsimp only at hb
   have X := And.intro Y34 X
   refine Tw ?_
   refine bnd1 hb (fun q107 h108 hb => ?_)
   refine G_burinref02_number_L1_ok _ _ h108 trivial trivial _ Cw ?_
   ·intro f102 n_101 ex Y104
    subst ex
    have hb := Option.some.inj hb
    subst hb
    have X := And.intro Y104 X
    refine Tw ?_
    exact endI rfl
def G_burinref02_quote_L1 (s_4 : Bytes) : Int → Option ((Int) ⊕ (Ex2 (Int) (Unit))) := fun i_5 =>
 if (decide (i_5 < ((List.length s_4 : Nat) : Int))) then
  idx s_4 i_5 >>= fun x16 =>
  if ((x16.toNat : Int) == (92 : Int)) then
   some (Sum.inl (IntKind.wrap .i64 ((IntKind.wrap .i64 (i_5 + (1 : Int))) + (1 : Int))))
  else
   idx s_4 i_5 >>= fun x18 =>
   idx s_4 (0 : Int) >>= fun x19 =>
   if ((x18.toNat : Int) == (x19.toNat : Int)) then
    some (Sum.inr (Ex2.a (IntKind.wrap .i64 (i_5 + (1 : Int)))))
   else
    some (Sum.inl (IntKind.wrap .i64 (i_5 + (1 : Int))))
 else
  some (Sum.inr (Ex2.b ()))
theorem G_burinref02_quote_L1_ok {κ : Kt} {t : Blk κ} {s_4 : Bytes} {h7 : Heap} (i_5 : Int) (x : Ex2 (Int) (Unit)) (hx : loopO (G_burinref02_quote_L1 s_4) i_5 = some x) (hh : True) (ho : True) : ∀ (f6 : Fr), (f6 0 = (.str s_4) ∧ f6 3 = (.int .i64 i_5)) → (∀ (f22 : Fr) (v21 : Int), Ex2.a v21 = x → (f22 2 = (.int .i64 v21)) → κ.R f22 h7) → (∀ (f27 : Fr), Ex2.b () = x → (True) → κ.B 0 f27 h7) → Lq E (.loop L_burinref02_quote_1) κ t f6 h7 := by
 revert i_5 x
 refine loop1' ?_
 intro i_5 r hb x hn f6  Y8  ex0 ex1
 dsimp only [G_burinref02_quote_L1] at hb
 refine loop_step L_burinref02_quote_1.eq_1 ?_
 have X := Y8
 refine Tw ?_
 refine Tw ?_
 refine bq_if hb rfl (fun c15 hb => ?_) (fun c15 hb => ?_)
 ·have X := And.intro c15 X
  refine Tw ?_
  refine vq_idxS hb (fun x16 hx16 hb => ?_)
  refine Tw ?_
  refine bq_if hb rfl (fun c17 hb => ?_) (fun c17 hb => ?_)
  ·have hb := Option.some.inj hb
   subst hb
   have X := And.intro c17 X
   refine Tw ?_
   exact hn _  Cw ex0 ex1
  ·have X := And.intro c17 X
   refine Tw ?_
   refine vq_idxS hb (fun x18 hx18 hb => ?_)
   refine Tw ?_
   refine vq_idxS hb (fun x19 hx19 hb => ?_)
   refine Tw ?_
   refine bq_if hb rfl (fun c20 hb => ?_) (fun c20 hb => ?_)
   ·have hb := Option.some.inj hb
    subst hb
    have hn : _ = _ := hn
    subst hn
    have X := And.intro c20 X
    refine Tw ?_
    exact ex0 _ (IntKind.wrap .i64 (i_5 + (1 : Int))) rfl Cw
   ·have hb := Option.some.inj hb
    subst hb
    have X := And.intro c20 X
    refine Tw ?_
    exact hn _  Cw ex0 ex1
 ·have hb := Option.some.inj hb
  subst hb
  have hn : _ = _ := hn
  subst hn
  have X := And.intro c15 X
  refine Tw ?_
  exact ex1 _ rfl trivial
def G_burinref02_quote (s_2 : Bytes) : Option (Int) :=
 loopO (G_burinref02_quote_L1 s_2) (1 : Int) >>= fun q32 => match q32 with
  | .a v21 =>
   some v21
  | .b _ =>
   some (0 : Int)
theorem G_burinref02_quote_ok {s_2 : Bytes} {r3 : Int} (hx : G_burinref02_quote s_2 = some r3) : PureE E 167 [(.str s_2)] (fun v => v = (.int .i64 r3)) := by
 refine pureE_ok fn_burinref02_quote rfl ?_
 have hb := hx
 dsimp only [G_burinref02_quote] at hb
 have X := True.intro
 refine Tw ?_
 refine bnd1 hb (fun q32 h33 hb => ?_)
 refine G_burinref02_quote_L1_ok _ _ h33 trivial trivial _ Cw ?_ ?_
 ·intro f22 v21 ex Y24
  subst ex
  try dsimp only at hb
  have hb := Option.some.inj hb
  subst hb
  have X := And.intro Y24 X
  refine Tw ?_
  exact endI rfl
 ·intro f27 ex Y29
  subst ex
  try dsimp only at hb
  have hb := Option.some.inj hb
  subst hb
  refine Tw ?_
  exact endI rfl
def G_burinref02_Punct_L1 (s_4 : Bytes) : Int × Int → Option ((Int × Int) ⊕ (Ex2 (Unit) (Unit))) := fun (from_5, i_6) =>
 if (decide (i_6 < (122 : Int))) then
  idx ([46, 46, 46, 32, 60, 60, 61, 32, 62, 62, 61, 32, 45, 62, 32, 43, 43, 32, 45, 45, 32, 60, 60, 32, 62, 62, 32, 60, 61, 32, 62, 61, 32, 61, 61, 32, 33, 61, 32, 38, 38, 32, 124, 124, 32, 42, 61, 32, 47, 61, 32, 37, 61, 32, 43, 61, 32, 45, 61, 32, 38, 61, 32, 94, 61, 32, 124, 61, 32, 35, 35, 32, 91, 32, 93, 32, 40, 32, 41, 32, 123, 32, 125, 32, 46, 32, 38, 32, 42, 32, 43, 32, 45, 32, 126, 32, 33, 32, 47, 32, 37, 32, 60, 32, 62, 32, 94, 32, 124, 32, 63, 32, 58, 32, 59, 32, 61, 32, 44, 32, 35, 32] : Bytes) i_6 >>= fun x18 =>
  if ((x18.toNat : Int) == (32 : Int)) then
   subB ([46, 46, 46, 32, 60, 60, 61, 32, 62, 62, 61, 32, 45, 62, 32, 43, 43, 32, 45, 45, 32, 60, 60, 32, 62, 62, 32, 60, 61, 32, 62, 61, 32, 61, 61, 32, 33, 61, 32, 38, 38, 32, 124, 124, 32, 42, 61, 32, 47, 61, 32, 37, 61, 32, 43, 61, 32, 45, 61, 32, 38, 61, 32, 94, 61, 32, 124, 61, 32, 35, 35, 32, 91, 32, 93, 32, 40, 32, 41, 32, 123, 32, 125, 32, 46, 32, 38, 32, 42, 32, 43, 32, 45, 32, 126, 32, 33, 32, 47, 32, 37, 32, 60, 32, 62, 32, 94, 32, 124, 32, 63, 32, 58, 32, 59, 32, 61, 32, 44, 32, 35, 32] : Bytes) from_5 i_6 >>= fun t20 =>
   if (t20 == s_4) then
    some (Sum.inr (Ex2.a ()))
   else
    some (Sum.inl ((IntKind.wrap .i64 (i_6 + (1 : Int))), (IntKind.wrap .i64 (i_6 + (1 : Int)))))
  else
   some (Sum.inl (from_5, (IntKind.wrap .i64 (i_6 + (1 : Int)))))
 else
  some (Sum.inr (Ex2.b ()))
theorem G_burinref02_Punct_L1_ok {κ : Kt} {t : Blk κ} {s_4 : Bytes} {h8 : Heap} (from_5 : Int) (i_6 : Int) (x : Ex2 (Unit) (Unit)) (hx : loopO (G_burinref02_Punct_L1 s_4) (from_5, i_6) = some x) (hh : True) (ho : True) : ∀ (f7 : Fr), (f7 0 = (.str s_4) ∧ f7 3 = (.int .i64 from_5) ∧ f7 4 = (.int .i64 i_6)) → (∀ (f22 : Fr), Ex2.a () = x → (f22 2 = (.bool true)) → κ.R f22 h8) → (∀ (f27 : Fr), Ex2.b () = x → (True) → κ.B 0 f27 h8) → Lq E (.loop L_burinref02_Punct_1) κ t f7 h8 := by
 revert from_5 i_6 x
 refine loop2' ?_
 intro from_5 i_6 r hb x hn f7  Y9  ex0 ex1
 dsimp only [G_burinref02_Punct_L1] at hb
 refine loop_step L_burinref02_Punct_1.eq_1 ?_
 have X := Y9
 refine Tw ?_
 refine Tw ?_
 refine bq_if hb rfl (fun c17 hb => ?_) (fun c17 hb => ?_)
 ·have X := And.intro c17 X
  refine Tw ?_
  refine vq_idxS hb (fun x18 hx18 hb => ?_)
  refine Tw ?_
  refine bq_if hb rfl (fun c19 hb => ?_) (fun c19 hb => ?_)
  ·have X := And.intro c19 X
   refine Tw ?_
   refine vq_subBs hb (fun t20 ht20 hb => ?_)
   refine Tw ?_
   refine bq_if hb rfl (fun c21 hb => ?_) (fun c21 hb => ?_)
   ·have hb := Option.some.inj hb
    subst hb
    have hn : _ = _ := hn
    subst hn
    have X := And.intro c21 X
    refine Tw ?_
    exact ex0 _ rfl Cw
   ·have hb := Option.some.inj hb
    subst hb
    have X := And.intro c21 X
    refine Tw ?_
    exact hn _  Cw ex0 ex1
  ·have hb := Option.some.inj hb
   subst hb
   have X := And.intro c19 X
   refine Tw ?_
   exact hn _  Cw ex0 ex1
 ·have hb := Option.some.inj hb
  subst hb
  have hn : _ = _ := hn
  subst hn
  have X := And.intro c17 X
  refine Tw ?_
  exact ex1 _ rfl trivial
def G_burinref02_Punct (s_2 : Bytes) : Option (Bool) :=
 loopO (G_burinref02_Punct_L1 s_2) ((0 : Int), (0 : Int)) >>= fun q32 => match q32 with
  | .a _ =>
   some true
  | .b _ =>
   some false
theorem G_burinref02_Punct_ok {s_2 : Bytes} {r3 : Bool} (hx : G_burinref02_Punct s_2 = some r3) : PureE E 188 [(.str s_2)] (fun v => v = (.bool r3)) := by
 refine pureE_ok fn_burinref02_Punct rfl ?_
 have hb := hx
 dsimp only [G_burinref02_Punct] at hb
 have X := True.intro
 refine Tw ?_
 refine bnd1 hb (fun q32 h33 hb => ?_)
 refine G_burinref02_Punct_L1_ok _ _ _ h33 trivial trivial _ Cw ?_ ?_
 ·intro f22 ex Y24
  subst ex
  try dsimp only at hb
  have hb := Option.some.inj hb
  subst hb
  have X := And.intro Y24 X
  refine Tw ?_
  exact endI rfl
 ·intro f27 ex Y29
  subst ex
  try dsimp only at hb
  have hb := Option.some.inj hb
  subst hb
  refine Tw ?_
  exact endI rfl
def G_burinref02_sign_L1 (s_4 : Bytes) : Int → Option ((Int) ⊕ (Ex2 (Int) (Unit))) := fun n_5 =>
 if (decide ((0 : Int) < n_5)) then
  subT s_4 n_5 >>= fun t16 =>
  G_burinref02_Punct t16 >>= fun r17 =>
  if r17 then
   some (Sum.inr (Ex2.a n_5))
  else
   some (Sum.inl (IntKind.wrap .i64 (n_5 - (1 : Int))))
 else
  some (Sum.inr (Ex2.b ()))
theorem G_burinref02_sign_L1_ok {κ : Kt} {t : Blk κ} {s_4 : Bytes} {h7 : Heap} (n_5 : Int) (x : Ex2 (Int) (Unit)) (hx : loopO (G_burinref02_sign_L1 s_4) n_5 = some x) (hh : True) (ho : True) : ∀ (f6 : Fr), (f6 0 = (.str s_4) ∧ f6 3 = (.int .i64 n_5)) → (∀ (f21 : Fr) (v20 : Int), Ex2.a v20 = x → (f21 2 = (.int .i64 v20)) → κ.R f21 h7) → (∀ (f26 : Fr), Ex2.b () = x → (True) → κ.B 0 f26 h7) → Lq E (.loop L_burinref02_sign_1) κ t f6 h7 := by
 revert n_5 x
 refine loop1' ?_
 intro n_5 r hb x hn f6  Y8  ex0 ex1
 dsimp only [G_burinref02_sign_L1] at hb
 refine loop_step L_burinref02_sign_1.eq_1 ?_
 have X := Y8
 refine Tw ?_
 refine Tw ?_
 refine bq_if hb rfl (fun c15 hb => ?_) (fun c15 hb => ?_)
 ·have X := And.intro c15 X
  refine Tw ?_
  refine vq_subTs hb (fun t16 ht16 hb => ?_)
  refine Tw ?_
  refine bnd1 hb (fun r17 h18 hb => ?_)
  refine pq_eq (G_burinref02_Punct_ok h18) ?_
  refine Tw ?_
  refine bq_if hb rfl (fun c19 hb => ?_) (fun c19 hb => ?_)
  ·have hb := Option.some.inj hb
   subst hb
   have hn : _ = _ := hn
   subst hn
   have X := And.intro c19 X
   refine Tw ?_
   exact ex0 _ n_5 rfl Cw
  ·have hb := Option.some.inj hb
   subst hb
   have X := And.intro c19 X
   refine Tw ?_
   exact hn _  Cw ex0 ex1
 ·have hb := Option.some.inj hb
  subst hb
  have hn : _ = _ := hn
  subst hn
  have X := And.intro c15 X
  refine Tw ?_
  exact ex1 _ rfl trivial
def G_burinref02_sign (s_2 : Bytes) : Option (Int) :=
 loopO (G_burinref02_sign_L1 s_2) (if ((List.length s_2 : Nat) : Int) < (3 : Int) then ((List.length s_2 : Nat) : Int) else (3 : Int)) >>= fun q31 => match q31 with
  | .a v20 =>
   some v20
  | .b _ =>
   some (0 : Int)
theorem G_burinref02_sign_ok {s_2 : Bytes} {r3 : Int} (hx : G_burinref02_sign s_2 = some r3) : PureE E 168 [(.str s_2)] (fun v => v = (.int .i64 r3)) := by
 refine pureE_ok fn_burinref02_sign rfl ?_
 have hb := hx
 dsimp only [G_burinref02_sign] at hb
 have X := True.intro
 refine Tw ?_
 refine bnd1 hb (fun q31 h32 hb => ?_)
 refine G_burinref02_sign_L1_ok _ _ h32 trivial trivial _ Cw ?_ ?_
 ·intro f21 v20 ex Y23
  subst ex
  try dsimp only at hb
  have hb := Option.some.inj hb
  subst hb
  have X := And.intro Y23 X
  refine Tw ?_
  exact endI rfl
 ·intro f26 ex Y28
  subst ex
  try dsimp only at hb
  have hb := Option.some.inj hb
  subst hb
  refine Tw ?_
  exact endI rfl
def G_burinref02_first (s_2 : Bytes) : Option (Int × Int) :=
 G_burinref02_name s_2 >>= fun r5 =>
 if (decide ((0 : Int) < r5)) then
  some ((1 : Int), r5)
 else
  G_burinref02_number s_2 >>= fun r8 =>
  if (decide ((0 : Int) < r8)) then
   some ((2 : Int), r8)
  else
   (
    (
     idx s_2 (0 : Int) >>= fun x17 =>
     if ((x17.toNat : Int) == (39 : Int)) then
      some true
     else
      idx s_2 (0 : Int) >>= fun x19 =>
      some ((x19.toNat : Int) == (34 : Int))
    ) >>= fun v20 =>
    if v20 then
     G_burinref02_quote s_2 >>= fun r30 =>
     idx s_2 (0 : Int) >>= fun x32 =>
     if ((x32.toNat : Int) == (34 : Int)) then
      some (Ex2.a ((4 : Int), r30))
     else
      if (r30 == (2 : Int)) then
       some (Ex2.a ((3 : Int), (0 : Int)))
      else
       some (Ex2.a ((3 : Int), r30))
    else
     some (Ex2.b ())
   ) >>= fun j43 => match j43 with
    | .a q => some q
    | .b () =>
     G_burinref02_sign s_2 >>= fun r45 =>
     if (decide ((0 : Int) < r45)) then
      some ((5 : Int), r45)
     else
      some ((6 : Int), (1 : Int))
theorem G_burinref02_first_ok {s_2 : Bytes} {r3 : Int} {r4 : Int} (hx : G_burinref02_first s_2 = some (r3, r4)) : PureE E 146 [(.str s_2)] (fun v => v = (.tuple [(.int .i64 r3), (.int .i64 r4)])) := by
 refine pureE_ok fn_burinref02_first rfl ?_
 have hb := hx
 dsimp only [G_burinref02_first] at hb
 have X := True.intro
 refine Tw ?_
 refine bnd1 hb (fun r5 h6 hb => ?_)
 refine pq_eq (G_burinref02_name_ok h6) ?_
 refine Tw ?_
 refine bq_if hb rfl (fun c7 hb => ?_) (fun c7 hb => ?_)
 ·have hb := Option.some.inj hb
  obtain ⟨e0, e1⟩ := Prod.mk.inj hb
  subst e0
  subst e1
  have X := And.intro c7 X
  refine Tw ?_
  exact endI rfl
 ·have X := And.intro c7 X
  refine Tw ?_
  refine bnd1 hb (fun r8 h9 hb => ?_)
  refine pq_eq (G_burinref02_number_ok h9) ?_
  refine Tw ?_
  refine bq_if hb rfl (fun c10 hb => ?_) (fun c10 hb => ?_)
  ·have hb := Option.some.inj hb
   obtain ⟨e0, e1⟩ := Prod.mk.inj hb
   subst e0
   subst e1
   have X := And.intro c10 X
   refine Tw ?_
   exact endI rfl
  ·have X := And.intro c10 X
   refine Tw ?_
   refine bnd1 hb (fun j43 hj hb => ?_)
   refine wq_joinF (fun Z => ∀ (f38 : Fr), Ex2.b () = j43 → (f38 0 = (.str s_2)) → Z f38) (fun Z hX13 => ?_) ?_
   ·have hr12 := hb
    clear hb
    have hb := hj
    clear hj
    refine wq_def J_burinref02_first_1.eq_1 ?_
    refine Tw ?_
    refine Tw ?_
    refine bnd1 hb (fun j26 hj hb => ?_)
    refine wq_joinF (fun Z => ∀ (f21 : Fr) (v20 : Bool), v20 = j26 → (f21 0 = (.str s_2) ∧ f21 22 = (.bool v20)) → Z f21) (fun Z hX16 => ?_) ?_
    ·have hr15 := hb
     clear hb
     have hb := hj
     clear hj
     refine wq_def J_burinref02_first_2.eq_1 ?_
     refine Tw ?_
     refine Tw ?_
     refine vq_idxS hb (fun x17 hx17 hb => ?_)
     refine Tw ?_
     refine bq_if hb rfl (fun c18 hb => ?_) (fun c18 hb => ?_)
     ·have hb := Option.some.inj hb
      subst hb
      have X := And.intro c18 X
      refine Tw ?_
      exact hX16 _ true rfl Cw
     ·have X := And.intro c18 X
      refine Tw ?_
      refine vq_idxS hb (fun x19 hx19 hb => ?_)
      have hb := Option.some.inj hb
      subst hb
      refine Tw ?_
      exact hX16 _ ((x19.toNat : Int) == (34 : Int)) rfl Cw
    ·intro f21 v20 ej Y23
     subst ej
     try dsimp only at hb
     have X := And.intro Y23 X
     refine Tw ?_
     refine bq_if hb rfl (fun c29 hb => ?_) (fun c29 hb => ?_)
     ·have X := And.intro c29 X
      refine Tw ?_
      refine bnd1 hb (fun r30 h31 hb => ?_)
      refine pq_eq (G_burinref02_quote_ok h31) ?_
      refine Tw ?_
      refine vq_idxS hb (fun x32 hx32 hb => ?_)
      refine Tw ?_
      refine bq_if hb rfl (fun c33 hb => ?_) (fun c33 hb => ?_)
      ·have hq := Option.some.inj hb
       subst hq
       try dsimp only at hr12
       have hb := hr12
       have hb := Option.some.inj hb
       obtain ⟨e0, e1⟩ := Prod.mk.inj hb
       subst e0
       subst e1
       have X := And.intro c33 X
       refine Tw ?_
       exact endI rfl
      ·have X := And.intro c33 X
       refine Tw ?_
       refine bq_if hb rfl (fun c35 hb => ?_) (fun c35 hb => ?_)
       ·have hq := Option.some.inj hb
        subst hq
        try dsimp only at hr12
        have hb := hr12
        have hb := Option.some.inj hb
        obtain ⟨e0, e1⟩ := Prod.mk.inj hb
        subst e0
        subst e1
        have X := And.intro c35 X
        refine Tw ?_
        exact endI rfl
       ·have hq := Option.some.inj hb
        subst hq
        try dsimp only at hr12
        have hb := hr12
        have hb := Option.some.inj hb
        obtain ⟨e0, e1⟩ := Prod.mk.inj hb
        subst e0
        subst e1
        have X := And.intro c35 X
        refine Tw ?_
        exact endI rfl
     ·have hb := Option.some.inj hb
      subst hb
      have X := And.intro c29 X
      refine Tw ?_
      exact hX13 _ rfl Cw
   ·intro f38 ej Y40
    subst ej
    try dsimp only at hb
    have X := And.intro Y40 X
    refine Tw ?_
    refine bnd1 hb (fun r45 h46 hb => ?_)
    refine pq_eq (G_burinref02_sign_ok h46) ?_
    refine Tw ?_
    refine bq_if hb rfl (fun c47 hb => ?_) (fun c47 hb => ?_)
    ·have hb := Option.some.inj hb
     obtain ⟨e0, e1⟩ := Prod.mk.inj hb
     subst e0
     subst e1
     have X := And.intro c47 X
     refine Tw ?_
     exact endI rfl
    ·have hb := Option.some.inj hb
     obtain ⟨e0, e1⟩ := Prod.mk.inj hb
     subst e0
     subst e1
     have X := And.intro c47 X
     refine Tw ?_
     exact endI rfl
def G_burinref02_Lex_L2 (s_70 : Bytes) (v88 : Int) : Int × List T_api_Tok × Bool × Bool × Bool × Int → Option ((Int × List T_api_Tok × Bool × Bool × Bool × Int) ⊕ (Ex2 (Int × List T_api_Tok × Bool × Bool × Int) (List T_api_Tok × Bool × Bool × Bool × Int))) := fun (i_71, v78, v83, v84, v85, v86) =>
 if (decide (i_71 < ((List.length s_70 : Nat) : Int))) then
  if v85 then
   if (decide ((IntKind.wrap .i64 (i_71 + (1 : Int))) < ((List.length s_70 : Nat) : Int))) then
    idx s_70 i_71 >>= fun x102 =>
    if ((x102.toNat : Int) == (42 : Int)) then
     idx s_70 (IntKind.wrap .i64 (i_71 + (1 : Int))) >>= fun x104 =>
     if ((x104.toNat : Int) == (47 : Int)) then
      some (Sum.inl ((IntKind.wrap .i64 ((IntKind.wrap .i64 (i_71 + (1 : Int))) + (1 : Int))), v78, true, v84, false, v86))
     else
      some (Sum.inl ((IntKind.wrap .i64 (i_71 + (1 : Int))), v78, true, v84, true, v86))
    else
     some (Sum.inl ((IntKind.wrap .i64 (i_71 + (1 : Int))), v78, true, v84, true, v86))
   else
    some (Sum.inl ((IntKind.wrap .i64 (i_71 + (1 : Int))), v78, true, v84, true, v86))
  else
   idx s_70 i_71 >>= fun x111 =>
   G_burinref02_blank (x111.toNat : Int) >>= fun r112 =>
   if r112 then
    some (Sum.inl ((IntKind.wrap .i64 (i_71 + (1 : Int))), v78, true, v84, false, v86))
   else
    (
     if (decide ((IntKind.wrap .i64 (i_71 + (1 : Int))) < ((List.length s_70 : Nat) : Int))) then
      idx s_70 i_71 >>= fun x120 =>
      if ((x120.toNat : Int) == (47 : Int)) then
       idx s_70 (IntKind.wrap .i64 (i_71 + (1 : Int))) >>= fun x122 =>
       if ((x122.toNat : Int) == (47 : Int)) then
        some (Ex2.a (Sum.inr (Ex2.a ((0 : Int), v78, v83, v84, v86))))
       else
        some (Ex2.b ())
      else
       some (Ex2.b ())
     else
      some (Ex2.b ())
    ) >>= fun j130 => match j130 with
     | .a q => some q
     | .b () =>
      (
       (
        if (decide ((IntKind.wrap .i64 (i_71 + (1 : Int))) < ((List.length s_70 : Nat) : Int))) then
         idx s_70 i_71 >>= fun x142 =>
         if ((x142.toNat : Int) == (47 : Int)) then
          idx s_70 (IntKind.wrap .i64 (i_71 + (1 : Int))) >>= fun x144 =>
          some ((x144.toNat : Int) == (42 : Int))
         else
          some false
        else
         some false
       ) >>= fun v145 =>
       if v145 then
        some (Ex2.a (Sum.inl ((IntKind.wrap .i64 (i_71 + (2 : Int))), v78, v83, v84, true, v88)))
       else
        some (Ex2.b ())
      ) >>= fun j166 => match j166 with
       | .a q => some q
       | .b () =>
        subF s_70 i_71 >>= fun t171 =>
        G_burinref02_first t171 >>= fun (r172, r173) =>
        if (r173 == (0 : Int)) then
         some (Sum.inr (Ex2.a ((21 : Int), v78, v83, v84, v86)))
        else
         if (decide ((20000 : Int) ≤ ((List.length v78 : Nat) : Int))) then
          some (Sum.inr (Ex2.a ((22 : Int), v78, v83, v84, v86)))
         else
          subB s_70 i_71 (IntKind.wrap .i64 (i_71 + r173)) >>= fun t177 =>
          app 56 v78 [(T_api_Tok.mk r172 t177 [] v88 v83 v84)] >>= fun t179 =>
          some (Sum.inl ((IntKind.wrap .i64 (i_71 + r173)), t179, false, false, false, v86))
 else
  some (Sum.inr (Ex2.b (v78, v83, v84, v85, v86)))
theorem G_burinref02_Lex_L2_ok {κ : Kt} {t : Blk κ} {s_70 : Bytes} {v88 : Int} {v89 : Bytes} {b77 : Nat} {b87 : Nat} (i_71 : Int) (v78 : List T_api_Tok) (v83 : Bool) (v84 : Bool) (v85 : Bool) (v86 : Int) (x : Ex2 (Int × List T_api_Tok × Bool × Bool × Int) (List T_api_Tok × Bool × Bool × Bool × Int)) (hx : loopO (G_burinref02_Lex_L2 s_70 v88) (i_71, v78, v83, v84, v85, v86) = some x) : ∀ (f72 : Fr) (h73 : Heap) (o79 : Own) (e80 : Nat) (M81 : List (List PV)), (f72 0 = (.ptr b77 0) ∧ f72 3 = (.ptr b87 0) ∧ f72 5 = (.str s_70) ∧ f72 6 = (.int .i64 i_71)) → (h73.box b77 = some [(.slice o79 e80 M81), (.bool v83), (.bool v84), (.bool v85), (.int .i64 v86)] ∧ h73.box b87 = some [(.int .i64 v88), (.str v89)] ∧ OwnOK h73 o79) → (b77 < b87 ∧ b87 < h73.n) → SlR 6 T_api_Tok.R o79 e80 v78 M81 → (∀ (f192 : Fr) (h193 : Heap) (v191 : Int) (v197 : List T_api_Tok) (v202 : Bool) (v203 : Bool) (v204 : Int) (o198 : Own) (e199 : Nat) (M200 : List (List PV)), Ex2.a (v191, v197, v202, v203, v204) = x → (f192 4 = (.int .i64 v191) ∧ h193.box b77 = some [(.slice o198 e199 M200), (.bool v202), (.bool v203), (.bool false), (.int .i64 v204)] ∧ h193.box b87 = some [(.int .i64 v88), (.str v89)] ∧ OwnOK h193 o198) → (b77 < b87 ∧ b87 < h193.n) → SlR 6 T_api_Tok.R o198 e199 v197 M200 → κ.R f192 h193) → (∀ (f206 : Fr) (h207 : Heap) (v211 : List T_api_Tok) (v216 : Bool) (v217 : Bool) (v218 : Bool) (v219 : Int) (o212 : Own) (e213 : Nat) (M214 : List (List PV)), Ex2.b (v211, v216, v217, v218, v219) = x → (h207.box b77 = some [(.slice o212 e213 M214), (.bool v216), (.bool v217), (.bool v218), (.int .i64 v219)] ∧ h207.box b87 = some [(.int .i64 v88), (.str v89)] ∧ OwnOK h207 o212) → (b77 < b87 ∧ b87 < h207.n) → SlR 6 T_api_Tok.R o212 e213 v211 M214 → κ.B 0 f206 h207) → Lq E (.loop L_burinref02_lexer_line_1) κ t f72 h73 := by
 revert i_71 v78 v83 v84 v85 v86 x
 refine loop6' ?_
 intro i_71 v78 v83 v84 v85 v86 r hb x hn f72 h73 o79 e80 M81 Y74 Y75 Y76 s82 ex0 ex1
 dsimp only [G_burinref02_Lex_L2] at hb
 refine loop_step L_burinref02_lexer_line_1.eq_1 ?_
 have X := And.intro Y74 (And.intro Y75 (s82.len))
 refine Tw ?_
 refine Tw ?_
 refine bq_if hb rfl (fun c99 hb => ?_) (fun c99 hb => ?_)
 ·have X := And.intro c99 X
  refine Tw ?_
  refine bq_if hb rfl (fun c100 hb => ?_) (fun c100 hb => ?_)
  ·have X := And.intro c100 X
   refine Tw ?_
   refine bq_if hb rfl (fun c101 hb => ?_) (fun c101 hb => ?_)
   ·have X := And.intro c101 X
    refine Tw ?_
    refine vq_idxS hb (fun x102 hx102 hb => ?_)
    refine Tw ?_
    refine bq_if hb rfl (fun c103 hb => ?_) (fun c103 hb => ?_)
    ·have X := And.intro c103 X
     refine Tw ?_
     refine vq_idxS hb (fun x104 hx104 hb => ?_)
     refine Tw ?_
     refine bq_if hb rfl (fun c105 hb => ?_) (fun c105 hb => ?_)
     ·have hb := Option.some.inj hb
      subst hb
      have X := And.intro c105 X
      refine Tw ?_
      exact hn _ _ o79 e80 M81 Cw Cw Cn s82 ex0 ex1
     ·have hb := Option.some.inj hb
      subst hb
      have X := And.intro c105 X
      refine Tw ?_
      exact hn _ _ o79 e80 M81 Cw Cw Cn s82 ex0 ex1
    ·have hb := Option.some.inj hb
     subst hb
     have X := And.intro c103 X
     refine Tw ?_
     exact hn _ _ o79 e80 M81 Cw Cw Cn s82 ex0 ex1
   ·have hb := Option.some.inj hb
    subst hb
    have X := And.intro c101 X
    refine Tw ?_
    exact hn _ _ o79 e80 M81 Cw Cw Cn s82 ex0 ex1
  ·have X := And.intro c100 X
   refine Tw ?_
   refine vq_idxS hb (fun x111 hx111 hb => ?_)
   refine Tw ?_
   refine bnd1 hb (fun r112 h113 hb => ?_)
   refine pq_eq (G_burinref02_blank_ok h113) ?_
   refine Tw ?_
   refine bq_if hb rfl (fun c114 hb => ?_) (fun c114 hb => ?_)
   ·have hb := Option.some.inj hb
    subst hb
    have X := And.intro c114 X
    refine Tw ?_
    exact hn _ _ o79 e80 M81 Cw Cw Cn s82 ex0 ex1
   ·have X := And.intro c114 X
    refine Tw ?_
    refine bnd1 hb (fun j130 hj hb => ?_)
    refine wq_joinF (fun Z => ∀ (f125 : Fr), Ex2.b () = j130 → (f125 0 = (.ptr b77 0) ∧ f125 3 = (.ptr b87 0) ∧ f125 5 = (.str s_70) ∧ f125 6 = (.int .i64 i_71)) → Z f125) (fun Z hX118 => ?_) ?_
    ·have hr117 := hb
     clear hb
     have hb := hj
     clear hj
     refine wq_def J_burinref02_lexer_line_2.eq_1 ?_
     refine Tw ?_
     refine Tw ?_
     refine bq_if hb rfl (fun c119 hb => ?_) (fun c119 hb => ?_)
     ·have X := And.intro c119 X
      refine Tw ?_
      refine vq_idxS hb (fun x120 hx120 hb => ?_)
      refine Tw ?_
      refine bq_if hb rfl (fun c121 hb => ?_) (fun c121 hb => ?_)
      ·have X := And.intro c121 X
       refine Tw ?_
       refine vq_idxS hb (fun x122 hx122 hb => ?_)
       refine Tw ?_
       refine bq_if hb rfl (fun c123 hb => ?_) (fun c123 hb => ?_)
       ·have hq := Option.some.inj hb
        subst hq
        try dsimp only at hr117
        have hb := hr117
        have hb := Option.some.inj hb
        subst hb
        have hn : _ = _ := hn
        subst hn
        have X := And.intro c123 X
        refine Tw ?_
        exact ex0 _ _ (0 : Int) v78 v83 v84 v86 o79 e80 M81 rfl Cw Cn s82
       ·have hb := Option.some.inj hb
        subst hb
        have X := And.intro c123 X
        refine Tw ?_
        exact hX118 _ rfl Cw
      ·have hb := Option.some.inj hb
       subst hb
       have X := And.intro c121 X
       refine Tw ?_
       exact hX118 _ rfl Cw
     ·have hb := Option.some.inj hb
      subst hb
      have X := And.intro c119 X
      refine Tw ?_
      exact hX118 _ rfl Cw
    ·intro f125 ej Y127
     subst ej
     try dsimp only at hb
     have X := And.intro Y127 X
     refine Tw ?_
     refine bnd1 hb (fun j166 hj hb => ?_)
     refine wq_joinF (fun Z => ∀ (f161 : Fr), Ex2.b () = j166 → (f161 0 = (.ptr b77 0) ∧ f161 3 = (.ptr b87 0) ∧ f161 5 = (.str s_70) ∧ f161 6 = (.int .i64 i_71)) → Z f161) (fun Z hX137 => ?_) ?_
     ·have hr136 := hb
      clear hb
      have hb := hj
      clear hj
      refine wq_def J_burinref02_lexer_line_3.eq_1 ?_
      refine Tw ?_
      refine Tw ?_
      refine bnd1 hb (fun j151 hj hb => ?_)
      refine wq_joinF (fun Z => ∀ (f146 : Fr) (v145 : Bool), v145 = j151 → (f146 0 = (.ptr b77 0) ∧ f146 3 = (.ptr b87 0) ∧ f146 5 = (.str s_70) ∧ f146 6 = (.int .i64 i_71) ∧ f146 102 = (.bool v145)) → Z f146) (fun Z hX140 => ?_) ?_
      ·have hr139 := hb
       clear hb
       have hb := hj
       clear hj
       refine wq_def J_burinref02_lexer_line_4.eq_1 ?_
       refine Tw ?_
       refine Tw ?_
       refine bq_if hb rfl (fun c141 hb => ?_) (fun c141 hb => ?_)
       ·have X := And.intro c141 X
        refine Tw ?_
        refine vq_idxS hb (fun x142 hx142 hb => ?_)
        refine Tw ?_
        refine bq_if hb rfl (fun c143 hb => ?_) (fun c143 hb => ?_)
        ·have X := And.intro c143 X
         refine Tw ?_
         refine vq_idxS hb (fun x144 hx144 hb => ?_)
         have hb := Option.some.inj hb
         subst hb
         refine Tw ?_
         exact hX140 _ ((x144.toNat : Int) == (42 : Int)) rfl Cw
        ·have hb := Option.some.inj hb
         subst hb
         have X := And.intro c143 X
         refine Tw ?_
         exact hX140 _ false rfl Cw
       ·have hb := Option.some.inj hb
        subst hb
        have X := And.intro c141 X
        refine Tw ?_
        exact hX140 _ false rfl Cw
      ·intro f146 v145 ej Y148
       subst ej
       try dsimp only at hb
       have X := And.intro Y148 X
       refine Tw ?_
       refine bq_if hb rfl (fun c157 hb => ?_) (fun c157 hb => ?_)
       ·have hq := Option.some.inj hb
        subst hq
        try dsimp only at hr136
        have hb := hr136
        have hb := Option.some.inj hb
        subst hb
        have X := And.intro c157 X
        refine Tw ?_
        exact hn _ _ o79 e80 M81 Cw Cw Cn s82 ex0 ex1
       ·have hb := Option.some.inj hb
        subst hb
        have X := And.intro c157 X
        refine Tw ?_
        exact hX137 _ rfl Cw
     ·intro f161 ej Y163
      subst ej
      try dsimp only at hb
      have X := And.intro Y163 X
      refine Tw ?_
      refine vq_subFs hb (fun t171 ht171 hb => ?_)
      refine Tw ?_
      refine bnd2 hb (fun r172 r173 h174 hb => ?_)
      try dsimp only at hb
      refine pq_eq (G_burinref02_first_ok h174) ?_
      refine Tw ?_
      refine bq_if hb rfl (fun c175 hb => ?_) (fun c175 hb => ?_)
      ·have hb := Option.some.inj hb
       subst hb
       have hn : _ = _ := hn
       subst hn
       have X := And.intro c175 X
       refine Tw ?_
       exact ex0 _ _ (21 : Int) v78 v83 v84 v86 o79 e80 M81 rfl Cw Cn s82
      ·have X := And.intro c175 X
       refine Tw ?_
       refine bq_if hb rfl (fun c176 hb => ?_) (fun c176 hb => ?_)
       ·have hb := Option.some.inj hb
        subst hb
        have hn : _ = _ := hn
        subst hn
        have X := And.intro c176 X
        refine Tw ?_
        exact ex0 _ _ (22 : Int) v78 v83 v84 v86 o79 e80 M81 rfl Cw Cn s82
       ·have X := And.intro c176 X
        refine Tw ?_
        refine vq_subBs hb (fun t177 ht177 hb => ?_)
        refine Tw ?_
        refine vq_bsl rfl ?_
        refine Tw ?_
        refine vq_app s82 Cw (show SlR 6 T_api_Tok.R (.own h73.n false) 6 ([(T_api_Tok.mk r172 t177 [] v88 v83 v84)] : List T_api_Tok) [[(.int .i64 r172), (.str t177), (.str []), (.int .i64 v88), (.bool v83), (.bool v84)]] from (slr_cons (by simp) rfl (slr_0 (R := T_api_Tok.R)))) hb (fun t179 o180 M181 h182 ht179 hb s183 O184 F185 => ?_)
        have q186 := F185.n
        try simp only [HN] at q186
        have hb := Option.some.inj hb
        subst hb
        have X := And.intro F185.box (And.intro F185.loop (And.intro F185.bty (And.intro O184 (And.intro s183.len X))))
        refine Tw ?_
        exact hn _ _ o180 6 M181 Cw Cw Cn s183 ex0 ex1
 ·have hb := Option.some.inj hb
  subst hb
  have hn : _ = _ := hn
  subst hn
  have X := And.intro c99 X
  refine Tw ?_
  exact ex1 _ _ v78 v83 v84 v85 v86 o79 e80 M81 rfl Cw Cn s82
end Go.Proofs.YtmngkcpobmhnoaaGreatDoor.Sim
