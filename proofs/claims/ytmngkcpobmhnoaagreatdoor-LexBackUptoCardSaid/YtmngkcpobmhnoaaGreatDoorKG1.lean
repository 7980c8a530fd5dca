/- Printed functions. -/
import Derived.Test.YtmngkcpobmhnoaaGreatDoorKHand7
set_option linter.all false
set_option maxHeartbeats 4000000
set_option maxRecDepth 20000
namespace Go.Proofs.YtmngkcpobmhnoaaGreatDoor.Sim
structure T_api_Word where
 Kind_ : Int
 S_ : Bytes
 V_ : Int
 T_ : Int
 File_ : Bytes
 Line_ : Int
 deriving DecidableEq, Inhabited
def T_api_Word.cells (x : T_api_Word) : List PV := [(.int .i64 x.Kind_), (.str x.S_), (.int .i64 x.V_), (.int .i64 x.T_), (.str x.File_), (.int .i64 x.Line_)]
def T_api_Word.R (x : T_api_Word) (cs : List PV) : Prop := cs = x.cells
structure T_api_Tok where
 Kind_ : Int
 S_ : Bytes
 File_ : Bytes
 Line_ : Int
 Space_ : Bool
 First_ : Bool
 deriving DecidableEq, Inhabited
def T_api_Tok.cells (x : T_api_Tok) : List PV := [(.int .i64 x.Kind_), (.str x.S_), (.str x.File_), (.int .i64 x.Line_), (.bool x.Space_), (.bool x.First_)]
def T_api_Tok.R (x : T_api_Tok) (cs : List PV) : Prop := cs = x.cells
structure T_api_Line where
 N_ : Int
 S_ : Bytes
 deriving DecidableEq, Inhabited
def T_api_Line.cells (x : T_api_Line) : List PV := [(.int .i64 x.N_), (.str x.S_)]
def T_api_Line.R (x : T_api_Line) (cs : List PV) : Prop := cs = x.cells
structure T_token_scan where
 open_ : Bool
 from_ : Int
 space_ : Bool
 first_ : Bool
 deriving DecidableEq, Inhabited
def T_token_scan.cells (x : T_token_scan) : List PV := [(.bool x.open_), (.int .i64 x.from_), (.bool x.space_), (.bool x.first_)]
def T_token_scan.R (x : T_token_scan) (cs : List PV) : Prop := cs = x.cells
def G_lex_lies (v_2 : Int) (kind_3 : Int) : Option (Bool) :=
 if (kind_3 == (5 : Int)) then
  if (decide ((-128 : Int) ≤ v_2)) then
   some (decide (v_2 < (2147483648 : Int)))
  else
   some false
 else
  if (kind_3 == (6 : Int)) then
   shr .i64 v_2 (32 : Int) >>= fun i8 =>
   some (i8 == (0 : Int))
  else
   if (kind_3 == (7 : Int)) then
    some (decide ((0 : Int) ≤ v_2))
   else
    some (kind_3 == (8 : Int))
theorem G_lex_lies_ok {v_2 : Int} {kind_3 : Int} {r4 : Bool} (hx : G_lex_lies v_2 kind_3 = some r4) : PureE E 46 [(.int .i64 v_2), (.int .i64 kind_3)] (fun v => v = (.bool r4)) := by
 refine pureE_ok fn_lex_lies rfl ?_
 have hb := hx
 dsimp only [G_lex_lies] at hb
 have X := True.intro
 refine Tw ?_
 refine bq_if hb rfl (fun c5 hb => ?_) (fun c5 hb => ?_)
 ·have X := And.intro c5 X
  refine Tw ?_
  refine bq_if hb rfl (fun c6 hb => ?_) (fun c6 hb => ?_)
  ·have hb := Option.some.inj hb
   subst hb
   have X := And.intro c6 X
   refine Tw ?_
   exact endI rfl
  ·have hb := Option.some.inj hb
   subst hb
   have X := And.intro c6 X
   refine Tw ?_
   exact endI rfl
 ·have X := And.intro c5 X
  refine Tw ?_
  refine bq_if hb rfl (fun c7 hb => ?_) (fun c7 hb => ?_)
  ·have X := And.intro c7 X
   refine Tw ?_
   refine vq_shr hb (fun i8 hi8 hb => ?_)
   have hb := Option.some.inj hb
   subst hb
   refine Tw ?_
   exact endI rfl
  ·have X := And.intro c7 X
   refine Tw ?_
   refine bq_if hb rfl (fun c9 hb => ?_) (fun c9 hb => ?_)
   ·have hb := Option.some.inj hb
    subst hb
    have X := And.intro c9 X
    refine Tw ?_
    exact endI rfl
   ·have hb := Option.some.inj hb
    subst hb
    have X := And.intro c9 X
    refine Tw ?_
    exact endI rfl
def G_token_scan_skip_L1 (line_13 : Int) : Bytes × Bool × Int × Bool → Option ((Bytes × Bool × Int × Bool) ⊕ (Ex2 (Bytes × Int × Bool) (Bool × Int × Bool))) := fun (s_12, v20, v21, v22) =>
 if (!(s_12 == ([] : Bytes))) then
  if v20 then
   oCut s_12 ([42, 47] : Bytes) >>= fun (r33, r34, r35) =>
   if r35 then
    some (Sum.inl (r34, false, v21, true))
   else
    some (Sum.inl (r34, true, v21, true))
  else
   if (Lib.hasPrefix s_12 ([47, 47] : Bytes)) then
    some (Sum.inr (Ex2.a (([] : Bytes), v21, v22)))
   else
    if (Lib.hasPrefix s_12 ([47, 42] : Bytes)) then
     subF s_12 (2 : Int) >>= fun t42 =>
     some (Sum.inl (t42, true, line_13, v22))
    else
     idx s_12 (0 : Int) >>= fun x45 =>
     if (decide ((0 : Int) ≤ (Lib.indexByte ([32, 9, 11, 12] : Bytes) (Int.toNat (x45.toNat : Int)).toUInt8))) then
      subF s_12 (1 : Int) >>= fun t47 =>
      some (Sum.inl (t47, false, v21, true))
     else
      some (Sum.inr (Ex2.a (s_12, v21, v22)))
 else
  some (Sum.inr (Ex2.b (v20, v21, v22)))
theorem G_token_scan_skip_L1_ok {κ : Kt} {t : Blk κ} {line_13 : Int} {v23 : Bool} {b19 : Nat} {h1 : Heap} (s_12 : Bytes) (v20 : Bool) (v21 : Int) (v22 : Bool) (x : Ex2 (Bytes × Int × Bool) (Bool × Int × Bool)) (hx : loopO (G_token_scan_skip_L1 line_13) (s_12, v20, v21, v22) = some x) : ∀ (f14 : Fr) (h15 : Heap), (f14 0 = (.ptr b19 0) ∧ f14 1 = (.str s_12) ∧ f14 2 = (.int .i64 line_13)) → (h15.box b19 = some [(.bool v20), (.int .i64 v21), (.bool v22), (.bool v23)] ∧ FrB [b19] h1 h15) → (b19 < h1.n ∧ h1.n ≤ h15.n) → (∀ (f50 : Fr) (h51 : Heap) (v49 : Bytes) (v55 : Int) (v56 : Bool), Ex2.a (v49, v55, v56) = x → (f50 6 = (.str v49) ∧ h51.box b19 = some [(.bool false), (.int .i64 v55), (.bool v56), (.bool v23)] ∧ FrB [b19] h1 h51) → (b19 < h1.n ∧ h1.n ≤ h51.n) → κ.R f50 h51) → (∀ (f58 : Fr) (h59 : Heap) (v63 : Bool) (v64 : Int) (v65 : Bool), Ex2.b (v63, v64, v65) = x → (h59.box b19 = some [(.bool v63), (.int .i64 v64), (.bool v65), (.bool v23)] ∧ FrB [b19] h1 h59) → (b19 < h1.n ∧ h1.n ≤ h59.n) → κ.B 0 f58 h59) → Lq E (.loop L_token_scan_skip_1) κ t f14 h15 := by
 revert s_12 v20 v21 v22 x
 refine loop4' ?_
 intro s_12 v20 v21 v22 r hb x hn f14 h15  Y16 Y17 Y18  ex0 ex1
 dsimp only [G_token_scan_skip_L1] at hb
 refine loop_step L_token_scan_skip_1.eq_1 ?_
 have X := And.intro Y16 (Y17)
 refine Tw ?_
 refine Tw ?_
 refine bq_if hb rfl (fun c31 hb => ?_) (fun c31 hb => ?_)
 ·have X := And.intro c31 X
  refine Tw ?_
  refine bq_if hb rfl (fun c32 hb => ?_) (fun c32 hb => ?_)
  ·have X := And.intro c32 X
   refine Tw ?_
   refine bnd3 hb (fun r33 r34 r35 h36 hb => ?_)
   dsimp only at hb
   refine hq_Cut h36 ?_
   refine Tw ?_
   refine bq_if hb rfl (fun c38 hb => ?_) (fun c38 hb => ?_)
   ·have hb := Option.some.inj hb
    subst hb
    have X := And.intro c38 X
    refine Tw ?_
    exact hn _ _  Cw Cf Cn ex0 ex1
   ·have hb := Option.some.inj hb
    subst hb
    have X := And.intro c38 X
    refine Tw ?_
    exact hn _ _  Cw Cf Cn ex0 ex1
  ·have X := And.intro c32 X
   refine Tw ?_
   refine bq_if hb rfl (fun c40 hb => ?_) (fun c40 hb => ?_)
   ·have hb := Option.some.inj hb
    subst hb
    have hn : _ = _ := hn
    subst hn
    have X := And.intro c40 X
    refine Tw ?_
    exact ex0 _ _ ([] : Bytes) v21 v22 rfl Cf Cn
   ·have X := And.intro c40 X
    refine Tw ?_
    refine bq_if hb rfl (fun c41 hb => ?_) (fun c41 hb => ?_)
    ·have X := And.intro c41 X
     refine Tw ?_
     refine vq_subFs hb (fun t42 ht42 hb => ?_)
     have hb := Option.some.inj hb
     subst hb
     refine Tw ?_
     exact hn _ _  Cw Cf Cn ex0 ex1
    ·have X := And.intro c41 X
     refine Tw ?_
     refine vq_idxS hb (fun x45 hx45 hb => ?_)
     refine Tw ?_
     refine bq_if hb rfl (fun c46 hb => ?_) (fun c46 hb => ?_)
     ·have X := And.intro c46 X
      refine Tw ?_
      refine vq_subFs hb (fun t47 ht47 hb => ?_)
      have hb := Option.some.inj hb
      subst hb
      refine Tw ?_
      exact hn _ _  Cw Cf Cn ex0 ex1
     ·have hb := Option.some.inj hb
      subst hb
      have hn : _ = _ := hn
      subst hn
      have X := And.intro c46 X
      refine Tw ?_
      exact ex0 _ _ s_12 v21 v22 rfl Cf Cn
 ·have hb := Option.some.inj hb
  subst hb
  have hn : _ = _ := hn
  subst hn
  have X := And.intro c31 X
  refine Tw ?_
  exact ex1 _ _ v20 v21 v22 rfl Cf Cn
def G_token_scan_skip (x_2 : T_token_scan) (s_5 : Bytes) (line_6 : Int) : Option (Bytes × T_token_scan) :=
 loopO (G_token_scan_skip_L1 line_6) (s_5, x_2.open_, x_2.from_, x_2.space_) >>= fun q67 => match q67 with
  | .a (v49, v55, v56) =>
   some (v49, (T_token_scan.mk false v55 v56 x_2.first_))
  | .b (v63, v64, v65) =>
   some (([] : Bytes), (T_token_scan.mk v63 v64 v65 x_2.first_))
theorem G_token_scan_skip_ok {h1 : Heap} {b4 : Nat} {x_2 : T_token_scan} {s_5 : Bytes} {line_6 : Int} {r7 : Bytes} {r8 : T_token_scan} (hx : G_token_scan_skip x_2 s_5 line_6 = some (r7, r8)) (z9 : h1.box b4 = some [(.bool x_2.open_), (.int .i64 x_2.from_), (.bool x_2.space_), (.bool x_2.first_)]) (w10 : b4 < h1.n) : CallC E (.func 66 [] []) [(.ptr b4 0), (.str s_5), (.int .i64 line_6)] h1 (fun v h11 => v = (.str r7) ∧ h11.box b4 = some [(.bool r8.open_), (.int .i64 r8.from_), (.bool r8.space_), (.bool r8.first_)] ∧ FrB [b4] h1 h11) := by
 refine callE_ok fn_token_scan_skip rfl ?_
 have hb := hx
 dsimp only [G_token_scan_skip] at hb
 have X := z9
 refine Tw ?_
 refine bnd1 hb (fun q67 h68 hb => ?_)
 refine G_token_scan_skip_L1_ok (v23 := x_2.first_) (b19 := b4) (h1 := h1) _ _ _ _ _ h68 _ _ Cw Cf Cn ?_ ?_
 ·intro f50 h51 v49 v55 v56 ex Y52 Y54
  subst ex
  try dsimp only at hb
  have hb := Option.some.inj hb
  obtain ⟨e0, e1⟩ := Prod.mk.inj hb
  subst e0
  subst e1
  have X := And.intro Y52 X
  refine Tw ?_
  exact endHI ⟨rfl, Cw, Cf⟩
 ·intro f58 h59 v63 v64 v65 ex Y60 Y62
  subst ex
  try dsimp only at hb
  have hb := Option.some.inj hb
  obtain ⟨e0, e1⟩ := Prod.mk.inj hb
  subst e0
  subst e1
  have X := And.intro Y60 X
  refine Tw ?_
  exact endHI ⟨rfl, Cw, Cf⟩
def G_token_isLetter (c_2 : Int) : Option (Bool) :=
 if (decide ((97 : Int) ≤ (bor .u8 c_2 (32 : Int)))) then
  if (decide ((bor .u8 c_2 (32 : Int)) ≤ (122 : Int))) then
   some true
  else
   some (c_2 == (95 : Int))
 else
  some (c_2 == (95 : Int))
theorem G_token_isLetter_ok {c_2 : Int} {r3 : Bool} (hx : G_token_isLetter c_2 = some r3) : PureE E 97 [(.int .u8 c_2)] (fun v => v = (.bool r3)) := by
 refine pureE_ok fn_token_isLetter rfl ?_
 have hb := hx
 dsimp only [G_token_isLetter] at hb
 have X := True.intro
 refine Tw ?_
 refine bq_if hb rfl (fun c4 hb => ?_) (fun c4 hb => ?_)
 ·have X := And.intro c4 X
  refine Tw ?_
  refine bq_if hb rfl (fun c5 hb => ?_) (fun c5 hb => ?_)
  ·have hb := Option.some.inj hb
   subst hb
   have X := And.intro c5 X
   refine Tw ?_
   exact endI rfl
  ·have hb := Option.some.inj hb
   subst hb
   have X := And.intro c5 X
   refine Tw ?_
   exact endI rfl
 ·have hb := Option.some.inj hb
  subst hb
  have X := And.intro c4 X
  refine Tw ?_
  exact endI rfl
def G_token_isDigit (c_2 : Int) : Option (Bool) :=
 if (decide ((48 : Int) ≤ c_2)) then
  some (decide (c_2 ≤ (57 : Int)))
 else
  some false
theorem G_token_isDigit_ok {c_2 : Int} {r3 : Bool} (hx : G_token_isDigit c_2 = some r3) : PureE E 101 [(.int .u8 c_2)] (fun v => v = (.bool r3)) := by
 refine pureE_ok fn_token_isDigit rfl ?_
 have hb := hx
 dsimp only [G_token_isDigit] at hb
 have X := True.intro
 refine Tw ?_
 refine bq_if hb rfl (fun c4 hb => ?_) (fun c4 hb => ?_)
 ·have hb := Option.some.inj hb
  subst hb
  have X := And.intro c4 X
  refine Tw ?_
  exact endI rfl
 ·have hb := Option.some.inj hb
  subst hb
  have X := And.intro c4 X
  refine Tw ?_
  exact endI rfl
def G_token_isWord (c_2 : Int) : Option (Bool) :=
 G_token_isLetter c_2 >>= fun r4 =>
 if r4 then
  some true
 else
  G_token_isDigit c_2 >>= fun r7 =>
  some r7
theorem G_token_isWord_ok {c_2 : Int} {r3 : Bool} (hx : G_token_isWord c_2 = some r3) : PureE E 100 [(.int .u8 c_2)] (fun v => v = (.bool r3)) := by
 refine pureE_ok fn_token_isWord rfl ?_
 have hb := hx
 dsimp only [G_token_isWord] at hb
 have X := True.intro
 refine Tw ?_
 refine bnd1 hb (fun r4 h5 hb => ?_)
 refine pq_eq (G_token_isLetter_ok h5) ?_
 refine Tw ?_
 refine bq_if hb rfl (fun c6 hb => ?_) (fun c6 hb => ?_)
 ·have hb := Option.some.inj hb
  subst hb
  have X := And.intro c6 X
  refine Tw ?_
  exact endI rfl
 ·have X := And.intro c6 X
  refine Tw ?_
  refine bnd1 hb (fun r7 h8 hb => ?_)
  refine pq_eq (G_token_isDigit_ok h8) ?_
  have hb := Option.some.inj hb
  subst hb
  refine Tw ?_
  exact endI rfl
def G_token_numeric_L1 (s_6 : Bytes) (v14 : Bytes) : Int → Option ((Int) ⊕ (Int)) := fun n_7 =>
 if (decide (n_7 < ((List.length s_6 : Nat) : Int))) then
  idx v14 n_7 >>= fun x22 =>
  G_token_isWord (x22.toNat : Int) >>= fun r23 =>
  if r23 then
   some (Sum.inl (IntKind.wrap .i64 (n_7 + (1 : Int))))
  else
   idx v14 n_7 >>= fun x26 =>
   if ((x26.toNat : Int) == (46 : Int)) then
    some (Sum.inl (IntKind.wrap .i64 (n_7 + (1 : Int))))
   else
    if (decide ((0 : Int) < n_7)) then
     idx v14 n_7 >>= fun x29 =>
     if ((x29.toNat : Int) == (43 : Int)) then
      idx v14 (IntKind.wrap .i64 (n_7 - (1 : Int))) >>= fun x31 =>
      if (decide ((0 : Int) ≤ (Lib.indexByte ([101, 69, 112, 80] : Bytes) (Int.toNat (x31.toNat : Int)).toUInt8))) then
       some (Sum.inl (IntKind.wrap .i64 (n_7 + (1 : Int))))
      else
       some (Sum.inr n_7)
     else
      idx v14 n_7 >>= fun x33 =>
      if ((x33.toNat : Int) == (45 : Int)) then
       idx v14 (IntKind.wrap .i64 (n_7 - (1 : Int))) >>= fun x35 =>
       if (decide ((0 : Int) ≤ (Lib.indexByte ([101, 69, 112, 80] : Bytes) (Int.toNat (x35.toNat : Int)).toUInt8))) then
        some (Sum.inl (IntKind.wrap .i64 (n_7 + (1 : Int))))
       else
        some (Sum.inr n_7)
      else
       some (Sum.inr n_7)
    else
     some (Sum.inr n_7)
 else
  some (Sum.inr n_7)
theorem G_token_numeric_L1_ok {κ : Kt} {t : Blk κ} {s_6 : Bytes} {v14 : Bytes} {b13 : Nat} {h9 : Heap} (n_7 : Int) (x : Int) (hx : loopO (G_token_numeric_L1 s_6 v14) n_7 = some x) (hh : h9.box b13 = some [(.str v14)]) (ho : b13 < h9.n) : ∀ (f8 : Fr), (f8 0 = (.str s_6) ∧ f8 1 = (.func 134 [] [(.ptr b13 0)]) ∧ f8 5 = (.int .i64 n_7)) → (∀ (f38 : Fr) (n_37 : Int), n_37 = x → (f38 5 = (.int .i64 n_37)) → κ.B 0 f38 h9) → Lq E (.loop L_token_many_1) κ t f8 h9 := by
 revert n_7 x
 refine loop1' ?_
 intro n_7 r hb x hn f8  Y10  ex0
 dsimp only [G_token_numeric_L1] at hb
 refine loop_step L_token_many_1.eq_1 ?_
 have X := And.intro Y10 (hh)
 refine Tw ?_
 refine Tw ?_
 refine bq_if hb rfl (fun c21 hb => ?_) (fun c21 hb => ?_)
 ·have X := And.intro c21 X
  refine Tw ?_
  refine fq_in fn_token_numeric_1 (by rfl) ?_
  refine Tw ?_
  refine vq_idxS hb (fun x22 hx22 hb => ?_)
  refine Tw ?_
  refine bnd1 hb (fun r23 h24 hb => ?_)
  refine pq_eq (G_token_isWord_ok h24) ?_
  refine Tw ?_
  refine bq_if hb rfl (fun c25 hb => ?_) (fun c25 hb => ?_)
  ·have X := And.intro c25 X
   refine Tw ?_
   have hb := Option.some.inj hb
   subst hb
   refine Tw ?_
   exact hn _  Cw ex0
  ·have X := And.intro c25 X
   refine Tw ?_
   refine vq_idxS hb (fun x26 hx26 hb => ?_)
   refine Tw ?_
   refine bq_if hb rfl (fun c27 hb => ?_) (fun c27 hb => ?_)
   ·have X := And.intro c27 X
    refine Tw ?_
    have hb := Option.some.inj hb
    subst hb
    refine Tw ?_
    exact hn _  Cw ex0
   ·have X := And.intro c27 X
    refine Tw ?_
    refine bq_if hb rfl (fun c28 hb => ?_) (fun c28 hb => ?_)
    ·have X := And.intro c28 X
     refine Tw ?_
     refine vq_idxS hb (fun x29 hx29 hb => ?_)
     refine Tw ?_
     refine bq_if hb rfl (fun c30 hb => ?_) (fun c30 hb => ?_)
     ·have X := And.intro c30 X
      refine Tw ?_
      refine vq_idxS hb (fun x31 hx31 hb => ?_)
      refine Tw ?_
      refine Tw ?_
      refine bq_if hb rfl (fun c32 hb => ?_) (fun c32 hb => ?_)
      ·have hb := Option.some.inj hb
       subst hb
       have X := And.intro c32 X
       refine Tw ?_
       exact hn _  Cw ex0
      ·have hb := Option.some.inj hb
       subst hb
       have hn : _ = _ := hn
       subst hn
       have X := And.intro c32 X
       refine Tw ?_
       exact ex0 _ n_7 rfl Cw
     ·have X := And.intro c30 X
      refine Tw ?_
      refine vq_idxS hb (fun x33 hx33 hb => ?_)
      refine Tw ?_
      refine bq_if hb rfl (fun c34 hb => ?_) (fun c34 hb => ?_)
      ·have X := And.intro c34 X
       refine Tw ?_
       refine vq_idxS hb (fun x35 hx35 hb => ?_)
       refine Tw ?_
       refine Tw ?_
       refine bq_if hb rfl (fun c36 hb => ?_) (fun c36 hb => ?_)
       ·have hb := Option.some.inj hb
        subst hb
        have X := And.intro c36 X
        refine Tw ?_
        exact hn _  Cw ex0
       ·have hb := Option.some.inj hb
        subst hb
        have hn : _ = _ := hn
        subst hn
        have X := And.intro c36 X
        refine Tw ?_
        exact ex0 _ n_7 rfl Cw
      ·have X := And.intro c34 X
       refine Tw ?_
       have hb := Option.some.inj hb
       subst hb
       have hn : _ = _ := hn
       subst hn
       refine Tw ?_
       exact ex0 _ n_7 rfl Cw
    ·have X := And.intro c28 X
     refine Tw ?_
     have hb := Option.some.inj hb
     subst hb
     have hn : _ = _ := hn
     subst hn
     refine Tw ?_
     exact ex0 _ n_7 rfl Cw
 ·have hb := Option.some.inj hb
  subst hb
  have hn : _ = _ := hn
  subst hn
  have X := And.intro c21 X
  refine Tw ?_
  exact ex0 _ n_7 rfl Cw
def G_token_numeric (s_2 : Bytes) : Option (Int) :=
 loopO (G_token_numeric_L1 s_2 s_2) (0 : Int) >>= fun n_37 =>
 some n_37
theorem G_token_numeric_ok {s_2 : Bytes} {r3 : Int} (hx : G_token_numeric s_2 = some r3) : PureE E 102 [(.str s_2)] (fun v => v = (.int .i64 r3)) := by
 refine pureE_ok fn_token_numeric rfl ?_
 have hb := hx
 dsimp only [G_token_numeric] at hb
 have X := True.intro
 refine Tw ?_
 refine fq_in fn_token_many (by rfl) ?_
 refine Tw ?_
 refine bnd1 hb (fun q43 h44 hb => ?_)
 refine G_token_numeric_L1_ok (b13 := 0) _ _ h44 Cw Cn _ Cw ?_
 ·intro f38 n_37 ex Y40
  subst ex
  have X := And.intro Y40 X
  refine Tw ?_
  have hb := Option.some.inj hb
  subst hb
  refine Tw ?_
  exact endI rfl
def G_token_quoted_L1 (s_4 : Bytes) : Int → Option ((Int) ⊕ (Ex2 (Int) (Unit))) := fun i_5 =>
 if (decide (i_5 < ((List.length s_4 : Nat) : Int))) then
  idx s_4 i_5 >>= fun x16 =>
  if ((x16.toNat : Int) == (92 : Int)) then
   some (Sum.inl (IntKind.wrap .i64 ((IntKind.wrap .i64 (i_5 + (1 : Int))) + (1 : Int))))
  else
   idx s_4 (0 : Int) >>= fun x18 =>
   if ((x16.toNat : Int) == (x18.toNat : Int)) then
    some (Sum.inr (Ex2.a (IntKind.wrap .i64 (i_5 + (1 : Int)))))
   else
    some (Sum.inl (IntKind.wrap .i64 (i_5 + (1 : Int))))
 else
  some (Sum.inr (Ex2.b ()))
theorem G_token_quoted_L1_ok {κ : Kt} {t : Blk κ} {s_4 : Bytes} {h7 : Heap} (i_5 : Int) (x : Ex2 (Int) (Unit)) (hx : loopO (G_token_quoted_L1 s_4) i_5 = some x) (hh : True) (ho : True) : ∀ (f6 : Fr), (f6 0 = (.str s_4) ∧ f6 3 = (.int .i64 i_5)) → (∀ (f21 : Fr) (v20 : Int), Ex2.a v20 = x → (f21 2 = (.int .i64 v20)) → κ.R f21 h7) → (∀ (f26 : Fr), Ex2.b () = x → (True) → κ.B 0 f26 h7) → Lq E (.loop L_token_quoted_1) κ t f6 h7 := by
 revert i_5 x
 refine loop1' ?_
 intro i_5 r hb x hn f6  Y8  ex0 ex1
 dsimp only [G_token_quoted_L1] at hb
 refine loop_step L_token_quoted_1.eq_1 ?_
 have X := Y8
 refine Tw ?_
 refine Tw ?_
 refine bq_if hb rfl (fun c15 hb => ?_) (fun c15 hb => ?_)
 ·have X := And.intro c15 X
  refine Tw ?_
  refine vq_idxS hb (fun x16 hx16 hb => ?_)
  refine Tw ?_
  refine bq_if hb rfl (fun c17 hb => ?_) (fun c17 hb => ?_)
  ·have hb := Option.some.inj hb
   subst hb
   have X := And.intro c17 X
   refine Tw ?_
   exact hn _  Cw ex0 ex1
  ·have X := And.intro c17 X
   refine Tw ?_
   refine vq_idxS hb (fun x18 hx18 hb => ?_)
   refine Tw ?_
   refine bq_if hb rfl (fun c19 hb => ?_) (fun c19 hb => ?_)
   ·have hb := Option.some.inj hb
    subst hb
    have hn : _ = _ := hn
    subst hn
    have X := And.intro c19 X
    refine Tw ?_
    exact ex0 _ (IntKind.wrap .i64 (i_5 + (1 : Int))) rfl Cw
   ·have hb := Option.some.inj hb
    subst hb
    have X := And.intro c19 X
    refine Tw ?_
    exact hn _  Cw ex0 ex1
 ·have hb := Option.some.inj hb
  subst hb
  have hn : _ = _ := hn
  subst hn
  have X := And.intro c15 X
  refine Tw ?_
  exact ex1 _ rfl trivial
def G_token_quoted (s_2 : Bytes) : Option (Int) :=
 loopO (G_token_quoted_L1 s_2) (1 : Int) >>= fun q31 => match q31 with
  | .a v20 =>
   some v20
  | .b _ =>
   some (0 : Int)
theorem G_token_quoted_ok {s_2 : Bytes} {r3 : Int} (hx : G_token_quoted s_2 = some r3) : PureE E 103 [(.str s_2)] (fun v => v = (.int .i64 r3)) := by
 refine pureE_ok fn_token_quoted rfl ?_
 have hb := hx
 dsimp only [G_token_quoted] at hb
 have X := True.intro
 refine Tw ?_
 refine bnd1 hb (fun q31 h32 hb => ?_)
 refine G_token_quoted_L1_ok _ _ h32 trivial trivial _ Cw ?_ ?_
 ·intro f21 v20 ex Y23
  subst ex
  try dsimp only at hb
  have hb := Option.some.inj hb
  subst hb
  have X := And.intro Y23 X
  refine Tw ?_
  exact endI rfl
 ·intro f26 ex Y28
  subst ex
  try dsimp only at hb
  have hb := Option.some.inj hb
  subst hb
  refine Tw ?_
  exact endI rfl
def G_token_next_L1 (s_14 : Bytes) (v22 : Bytes) : Int → Option ((Int) ⊕ (Int)) := fun n_15 =>
 if (decide (n_15 < ((List.length s_14 : Nat) : Int))) then
  idx v22 n_15 >>= fun x30 =>
  G_token_isWord (x30.toNat : Int) >>= fun r31 =>
  if r31 then
   some (Sum.inl (IntKind.wrap .i64 (n_15 + (1 : Int))))
  else
   some (Sum.inr n_15)
 else
  some (Sum.inr n_15)
theorem G_token_next_L1_ok {κ : Kt} {t : Blk κ} {s_14 : Bytes} {v22 : Bytes} {b21 : Nat} {h17 : Heap} (n_15 : Int) (x : Int) (hx : loopO (G_token_next_L1 s_14 v22) n_15 = some x) (hh : h17.box b21 = some [(.str v22)]) (ho : b21 < h17.n) : ∀ (f16 : Fr), (f16 0 = (.str s_14) ∧ f16 1 = (.func 99 [] [(.ptr b21 0)]) ∧ f16 5 = (.int .i64 n_15)) → (∀ (f35 : Fr) (n_34 : Int), n_34 = x → (f35 5 = (.int .i64 n_34)) → κ.B 0 f35 h17) → Lq E (.loop L_token_many_1) κ t f16 h17 := by
 revert n_15 x
 refine loop1' ?_
 intro n_15 r hb x hn f16  Y18  ex0
 dsimp only [G_token_next_L1] at hb
 refine loop_step L_token_many_1.eq_1 ?_
 have X := And.intro Y18 (hh)
 refine Tw ?_
 refine Tw ?_
 refine bq_if hb rfl (fun c29 hb => ?_) (fun c29 hb => ?_)
 ·have X := And.intro c29 X
  refine Tw ?_
  refine fq_in fn_token_next_1 (by rfl) ?_
  refine Tw ?_
  refine vq_idxS hb (fun x30 hx30 hb => ?_)
  refine Tw ?_
  refine bnd1 hb (fun r31 h32 hb => ?_)
  refine pq_eq (G_token_isWord_ok h32) ?_
  refine Tw ?_
  refine Tw ?_
  refine bq_if hb rfl (fun c33 hb => ?_) (fun c33 hb => ?_)
  ·have hb := Option.some.inj hb
   subst hb
   have X := And.intro c33 X
   refine Tw ?_
   exact hn _  Cw ex0
  ·have hb := Option.some.inj hb
   subst hb
   have hn : _ = _ := hn
   subst hn
   have X := And.intro c33 X
   refine Tw ?_
   exact ex0 _ n_15 rfl Cw
 ·have hb := Option.some.inj hb
  subst hb
  have hn : _ = _ := hn
  subst hn
  have X := And.intro c29 X
  refine Tw ?_
  exact ex0 _ n_15 rfl Cw
def G_token_next_L2 (v97 : Bytes) : Int → Option ((Int) ⊕ (Ex2 (Int) (Unit))) := fun v90 =>
 if (decide (v90 < (48 : Int))) then
  idx signsL v90 >>= fun x105 =>
  if (Lib.hasPrefix v97 x105) then
   some (Sum.inr (Ex2.a ((List.length x105 : Nat) : Int)))
  else
   some (Sum.inl (IntKind.wrap .i64 (v90 + (1 : Int))))
 else
  some (Sum.inr (Ex2.b ()))
theorem G_token_next_L2_ok {κ : Kt} {t : Blk κ} {v97 : Bytes} {b96 : Nat} {h92 : Heap} (v90 : Int) (x : Ex2 (Int) (Unit)) (hx : loopO (G_token_next_L2 v97) v90 = some x) (hh : h92.box b96 = some [(.str v97)]) (ho : b96 < h92.n) : ∀ (f91 : Fr), (f91 1 = (.ptr b96 0) ∧ f91 48 = (.agg G_0) ∧ f91 49 = (.int .i64 v90)) → (∀ (f108 : Fr) (v107 : Int), Ex2.a v107 = x → (f108 2 = (.int .i64 (5 : Int)) ∧ f108 3 = (.int .i64 v107)) → κ.R f108 h92) → (∀ (f113 : Fr), Ex2.b () = x → (True) → κ.B 1 f113 h92) → Lq E (.loop L_token_next_1) κ t f91 h92 := by
 revert v90 x
 refine loop1' ?_
 intro v90 r hb x hn f91  Y93  ex0 ex1
 dsimp only [G_token_next_L2] at hb
 refine loop_step L_token_next_1.eq_1 ?_
 have X := And.intro Y93 (hh)
 refine Tw ?_
 refine Tw ?_
 refine bq_if hb rfl (fun c104 hb => ?_) (fun c104 hb => ?_)
 ·have X := And.intro c104 X
  refine Tw ?_
  refine vq_idxA (enc := PV.str) (L := signsL) G_0_eq rfl hb (fun x105 hx105 hb => ?_)
  refine Tw ?_
  refine bq_if hb rfl (fun c106 hb => ?_) (fun c106 hb => ?_)
  ·have hb := Option.some.inj hb
   subst hb
   have hn : _ = _ := hn
   subst hn
   have X := And.intro c106 X
   refine Tw ?_
   exact ex0 _ ((List.length x105 : Nat) : Int) rfl Cw
  ·have hb := Option.some.inj hb
   subst hb
   have X := And.intro c106 X
   refine Tw ?_
   exact hn _  Cw ex0 ex1
 ·have hb := Option.some.inj hb
  subst hb
  have hn : _ = _ := hn
  subst hn
  have X := And.intro c104 X
  refine Tw ?_
  exact ex1 _ rfl trivial
def G_token_next (s_2 : Bytes) : Option (Int × Int) :=
 idx s_2 (0 : Int) >>= fun x7 =>
 (
  G_token_isLetter (x7.toNat : Int) >>= fun r11 =>
  if r11 then
   loopO (G_token_next_L1 s_2 s_2) (0 : Int) >>= fun n_34 =>
   some (Ex2.a ((1 : Int), n_34))
  else
   (
    G_token_isDigit (x7.toNat : Int) >>= fun r47 =>
    if r47 then
     some true
    else
     if ((x7.toNat : Int) == (46 : Int)) then
      if (decide ((1 : Int) < ((List.length s_2 : Nat) : Int))) then
       idx s_2 (1 : Int) >>= fun x52 =>
       G_token_isDigit (x52.toNat : Int) >>= fun r53 =>
       some r53
      else
       some false
     else
      some false
   ) >>= fun v55 =>
   if v55 then
    G_token_numeric s_2 >>= fun r68 =>
    some (Ex2.a ((2 : Int), r68))
   else
    if ((x7.toNat : Int) == (34 : Int)) then
     G_token_quoted s_2 >>= fun r72 =>
     some (Ex2.a ((4 : Int), r72))
    else
     if ((x7.toNat : Int) == (39 : Int)) then
      G_token_quoted s_2 >>= fun r76 =>
      if (r76 == (2 : Int)) then
       some (Ex2.a ((3 : Int), (0 : Int)))
      else
       some (Ex2.a ((3 : Int), r76))
     else
      some (Ex2.b ())
 ) >>= fun j87 => match j87 with
  | .a q => some q
  | .b () =>
   loopO (G_token_next_L2 s_2) (0 : Int) >>= fun q118 => match q118 with
    | .a v107 =>
     some ((5 : Int), v107)
    | .b _ =>
     some ((6 : Int), (1 : Int))
theorem G_token_next_ok {s_2 : Bytes} {r3 : Int} {r4 : Int} (hx : G_token_next s_2 = some (r3, r4)) : PureE E 67 [(.str s_2)] (fun v => v = (.tuple [(.int .i64 r3), (.int .i64 r4)])) := by
 refine pureE_ok fn_token_next rfl ?_
 have hb := hx
 dsimp only [G_token_next] at hb
 have X := True.intro
 refine Tw ?_
 refine vq_idxS hb (fun x7 hx7 hb => ?_)
 refine Tw ?_
 refine bnd1 hb (fun j87 hj hb => ?_)
 refine wq_join (fun Z => ∀ (f81 : Fr) (h82 : Heap), Ex2.b () = j87 → (f81 1 = (.ptr 0 0) ∧ h82.box 0 = some [(.str s_2)]) → (0 < h82.n) → Z f81 h82) (fun Z hX10 => ?_) ?_
 ·have hr9 := hb
  clear hb
  have hb := hj
  clear hj
  refine wq_def J_token_next_1.eq_1 ?_
  refine Tw ?_
  refine Tw ?_
  refine bnd1 hb (fun r11 h12 hb => ?_)
  refine pq_eq (G_token_isLetter_ok h12) ?_
  refine Tw ?_
  refine bq_if hb rfl (fun c13 hb => ?_) (fun c13 hb => ?_)
  ·have X := And.intro c13 X
   refine Tw ?_
   refine fq_in fn_token_many (by rfl) ?_
   refine Tw ?_
   refine bnd1 hb (fun q40 h41 hb => ?_)
   refine G_token_next_L1_ok (b21 := 0) _ _ h41 Cw Cn _ Cw ?_
   ·intro f35 n_34 ex Y37
    subst ex
    have X := And.intro Y37 X
    refine Tw ?_
    have hq := Option.some.inj hb
    subst hq
    try dsimp only at hr9
    have hb := hr9
    have hb := Option.some.inj hb
    obtain ⟨e0, e1⟩ := Prod.mk.inj hb
    subst e0
    subst e1
    refine Tw ?_
    exact endI rfl
  ·have X := And.intro c13 X
   refine Tw ?_
   refine bnd1 hb (fun j62 hj hb => ?_)
   refine wq_join (fun Z => ∀ (f56 : Fr) (h57 : Heap) (v55 : Bool), v55 = j62 → (f56 1 = (.ptr 0 0) ∧ f56 4 = (.int .u8 (x7.toNat : Int)) ∧ f56 16 = (.bool v55) ∧ h57.box 0 = some [(.str s_2)]) → (0 < h57.n) → Z f56 h57) (fun Z hX46 => ?_) ?_
   ·have hr45 := hb
    clear hb
    have hb := hj
    clear hj
    refine wq_def J_token_next_2.eq_1 ?_
    refine Tw ?_
    refine Tw ?_
    refine bnd1 hb (fun r47 h48 hb => ?_)
    refine pq_eq (G_token_isDigit_ok h48) ?_
    refine Tw ?_
    refine bq_if hb rfl (fun c49 hb => ?_) (fun c49 hb => ?_)
    ·have hb := Option.some.inj hb
     subst hb
     have X := And.intro c49 X
     refine Tw ?_
     exact hX46 _ _ true rfl Cw Cn
    ·have X := And.intro c49 X
     refine Tw ?_
     refine bq_if hb rfl (fun c50 hb => ?_) (fun c50 hb => ?_)
     ·have X := And.intro c50 X
      refine Tw ?_
      refine bq_if hb rfl (fun c51 hb => ?_) (fun c51 hb => ?_)
      ·have X := And.intro c51 X
       refine Tw ?_
       refine vq_idxS hb (fun x52 hx52 hb => ?_)
       refine Tw ?_
       refine bnd1 hb (fun r53 h54 hb => ?_)
       refine pq_eq (G_token_isDigit_ok h54) ?_
       have hb := Option.some.inj hb
       subst hb
       refine Tw ?_
       exact hX46 _ _ r53 rfl Cw Cn
      ·have hb := Option.some.inj hb
       subst hb
       have X := And.intro c51 X
       refine Tw ?_
       exact hX46 _ _ false rfl Cw Cn
     ·have hb := Option.some.inj hb
      subst hb
      have X := And.intro c50 X
      refine Tw ?_
      exact hX46 _ _ false rfl Cw Cn
   ·intro f56 h57 v55 ej Y58 Y60
    subst ej
    try dsimp only at hb
    have X := And.intro Y58 X
    refine Tw ?_
    refine bq_if hb rfl (fun c67 hb => ?_) (fun c67 hb => ?_)
    ·have X := And.intro c67 X
     refine Tw ?_
     refine bnd1 hb (fun r68 h69 hb => ?_)
     refine pq_eq (G_token_numeric_ok h69) ?_
     have hq := Option.some.inj hb
     subst hq
     try dsimp only at hr9
     have hb := hr9
     have hb := Option.some.inj hb
     obtain ⟨e0, e1⟩ := Prod.mk.inj hb
     subst e0
     subst e1
     refine Tw ?_
     exact endI rfl
    ·have X := And.intro c67 X
     refine Tw ?_
     refine bq_if hb rfl (fun c71 hb => ?_) (fun c71 hb => ?_)
     ·have X := And.intro c71 X
      refine Tw ?_
      refine bnd1 hb (fun r72 h73 hb => ?_)
      refine pq_eq (G_token_quoted_ok h73) ?_
      have hq := Option.some.inj hb
      subst hq
      try dsimp only at hr9
      have hb := hr9
      have hb := Option.some.inj hb
      obtain ⟨e0, e1⟩ := Prod.mk.inj hb
      subst e0
      subst e1
      refine Tw ?_
      exact endI rfl
     ·have X := And.intro c71 X
      refine Tw ?_
      refine bq_if hb rfl (fun c75 hb => ?_) (fun c75 hb => ?_)
      ·have X := And.intro c75 X
       refine Tw ?_
       refine bnd1 hb (fun r76 h77 hb => ?_)
       refine pq_eq (G_token_quoted_ok h77) ?_
       refine Tw ?_
       refine bq_if hb rfl (fun c78 hb => ?_) (fun c78 hb => ?_)
       ·have hq := Option.some.inj hb
        subst hq
        try dsimp only at hr9
        have hb := hr9
        have hb := Option.some.inj hb
        obtain ⟨e0, e1⟩ := Prod.mk.inj hb
        subst e0
        subst e1
        have X := And.intro c78 X
        refine Tw ?_
        exact endI rfl
       ·have hq := Option.some.inj hb
        subst hq
        try dsimp only at hr9
        have hb := hr9
        have hb := Option.some.inj hb
        obtain ⟨e0, e1⟩ := Prod.mk.inj hb
        subst e0
        subst e1
        have X := And.intro c78 X
        refine Tw ?_
        exact endI rfl
      ·have hb := Option.some.inj hb
       subst hb
       have X := And.intro c75 X
       refine Tw ?_
       exact hX10 _ _ rfl Cw Cn
 ·intro f81 h82 ej Y83 Y85
  subst ej
  try dsimp only at hb
  have X := And.intro Y83 X
  refine Tw ?_
  refine bnd1 hb (fun q118 h119 hb => ?_)
  refine G_token_next_L2_ok (b96 := 0) _ _ h119 Cw Cn _ Cw ?_ ?_
  ·intro f108 v107 ex Y110
   subst ex
   try dsimp only at hb
   have hb := Option.some.inj hb
   obtain ⟨e0, e1⟩ := Prod.mk.inj hb
   subst e0
   subst e1
   have X := And.intro Y110 X
   refine Tw ?_
   exact endI rfl
  ·intro f113 ex Y115
   subst ex
   try dsimp only at hb
   have hb := Option.some.inj hb
   obtain ⟨e0, e1⟩ := Prod.mk.inj hb
   subst e0
   subst e1
   refine Tw ?_
   exact endI rfl
def G_token_Lex_L2 (v145 : Int) : Bytes × List T_api_Tok × Bool × Int × Bool × Bool → Option ((Bytes × List T_api_Tok × Bool × Int × Bool × Bool) ⊕ (Ex2 (List T_api_Tok × Int × Bool × Int × Bool × Bool) (List T_api_Tok × Bool × Int × Bool × Bool))) := fun (s_119, v126, v136, v137, v138, v139) =>
 if (!(s_119 == ([] : Bytes))) then
  G_token_next s_119 >>= fun (r170, r171) =>
  subT s_119 r171 >>= fun t173 =>
  if (t173 == ([] : Bytes)) then
   some (Sum.inr (Ex2.a (v126, (21 : Int), v136, v137, v138, v139)))
  else
   if (((List.length v126 : Nat) : Int) == (20000 : Int)) then
    some (Sum.inr (Ex2.a (v126, (22 : Int), v136, v137, v138, v139)))
   else
    app 56 v126 [(T_api_Tok.mk r170 t173 [] v145 v138 v139)] >>= fun t190 =>
    subF s_119 r171 >>= fun t201 =>
    G_token_scan_skip (T_token_scan.mk v136 v137 false false) t201 v145 >>= fun (r204, p205) =>
    some (Sum.inl (r204, t190, p205.open_, p205.from_, p205.space_, p205.first_))
 else
  some (Sum.inr (Ex2.b (v126, v136, v137, v138, v139)))
theorem G_token_Lex_L2_ok {κ : Kt} {t : Blk κ} {v132 : Int} {v134 : Int} {v141 : Int} {v142 : Bytes} {v145 : Int} {v146 : Bytes} {b125 : Nat} {b131 : Nat} {b133 : Nat} {b135 : Nat} {b140 : Nat} {b143 : Nat} {b144 : Nat} {l147 : Nat} {g148 : Fr} (s_119 : Bytes) (v126 : List T_api_Tok) (v136 : Bool) (v137 : Int) (v138 : Bool) (v139 : Bool) (x : Ex2 (List T_api_Tok × Int × Bool × Int × Bool × Bool) (List T_api_Tok × Bool × Int × Bool × Bool)) (hx : loopO (G_token_Lex_L2 v145) (s_119, v126, v136, v137, v138, v139) = some x) : ∀ (f120 : Fr) (h121 : Heap) (o127 : Own) (e128 : Nat) (M129 : List (List PV)), (f120 0 = (.yield l147) ∧ f120 1 = (.ptr b143 0) ∧ f120 2 = (.ptr b144 0) ∧ f120 4 = (.str s_119)) → (h121.box b125 = some [(.slice o127 e128 M129)] ∧ h121.box b131 = some [(.int .i64 v132)] ∧ h121.box b133 = some [(.int .i64 v134)] ∧ h121.box b135 = some [(.bool v136), (.int .i64 v137), (.bool v138), (.bool v139)] ∧ h121.box b140 = some [(.int .i64 v141), (.str v142)] ∧ h121.box b143 = some [(.ptr b135 0)] ∧ h121.box b144 = some [(.int .i64 v145), (.str v146)] ∧ h121.loop l147 = some ⟨.ready, none, g148, [23], A_token_Lex_1, Y_token_Lex_1⟩ ∧ g148 5 = (.ptr b125 0) ∧ g148 6 = (.ptr b131 0) ∧ g148 7 = (.ptr b133 0) ∧ g148 8 = (.ptr b135 0) ∧ g148 10 = (.ptr b140 0) ∧ OwnOK h121 o127) → (b125 < b131 ∧ b131 < b133 ∧ b133 < b135 ∧ b135 < b140 ∧ b140 < b143 ∧ b143 < b144 ∧ b144 < l147 ∧ l147 < h121.n) → SlR 6 T_api_Tok.R o127 e128 v126 M129 → (∀ (f214 : Fr) (h215 : Heap) (v219 : List T_api_Tok) (v224 : Int) (v225 : Bool) (v226 : Int) (v227 : Bool) (v228 : Bool) (o220 : Own) (e221 : Nat) (M222 : List (List PV)), Ex2.a (v219, v224, v225, v226, v227, v228) = x → (h215.box b125 = some [(.slice o220 e221 M222)] ∧ h215.box b131 = some [(.int .i64 v224)] ∧ h215.box b133 = some [(.int .i64 v141)] ∧ h215.box b135 = some [(.bool v225), (.int .i64 v226), (.bool v227), (.bool v228)] ∧ h215.box b140 = some [(.int .i64 v141), (.str v142)] ∧ h215.box b143 = some [(.ptr b135 0)] ∧ h215.box b144 = some [(.int .i64 v145), (.str v146)] ∧ h215.loop l147 = some ⟨.done, (some (.exit 0)), g148, [23], A_token_Lex_1, Y_token_Lex_1⟩ ∧ OwnOK h215 o220) → (b125 < b131 ∧ b131 < b133 ∧ b133 < b135 ∧ b135 < b140 ∧ b140 < b143 ∧ b143 < b144 ∧ b144 < l147 ∧ l147 < h215.n) → SlR 6 T_api_Tok.R o220 e221 v219 M222 → κ.R f214 h215) → (∀ (f230 : Fr) (h231 : Heap) (v235 : List T_api_Tok) (v240 : Bool) (v241 : Int) (v242 : Bool) (v243 : Bool) (o236 : Own) (e237 : Nat) (M238 : List (List PV)), Ex2.b (v235, v240, v241, v242, v243) = x → (h231.box b125 = some [(.slice o236 e237 M238)] ∧ h231.box b131 = some [(.int .i64 v132)] ∧ h231.box b133 = some [(.int .i64 v134)] ∧ h231.box b135 = some [(.bool v240), (.int .i64 v241), (.bool v242), (.bool v243)] ∧ h231.box b140 = some [(.int .i64 v141), (.str v142)] ∧ h231.box b143 = some [(.ptr b135 0)] ∧ h231.box b144 = some [(.int .i64 v145), (.str v146)] ∧ h231.loop l147 = some ⟨.ready, none, g148, [23], A_token_Lex_1, Y_token_Lex_1⟩ ∧ OwnOK h231 o236) → (b125 < b131 ∧ b131 < b133 ∧ b133 < b135 ∧ b135 < b140 ∧ b140 < b143 ∧ b143 < b144 ∧ b144 < l147 ∧ l147 < h231.n) → SlR 6 T_api_Tok.R o236 e237 v235 M238 → κ.B 0 f230 h231) → Lq E (.loop L_token_scan_toks_1_1) κ t f120 h121 := by
 revert s_119 v126 v136 v137 v138 v139 x
 refine loop6' ?_
 intro s_119 v126 v136 v137 v138 v139 r hb x hn f120 h121 o127 e128 M129 Y122 Y123 Y124 s130 ex0 ex1
 dsimp only [G_token_Lex_L2] at hb
 refine loop_step L_token_scan_toks_1_1.eq_1 ?_
 have X := And.intro Y122 (And.intro Y123 (s130.len))
 refine Tw ?_
 refine Tw ?_
 refine bq_if hb rfl (fun c169 hb => ?_) (fun c169 hb => ?_)
 ·have X := And.intro c169 X
  refine Tw ?_
  refine bnd2 hb (fun r170 r171 h172 hb => ?_)
  try dsimp only at hb
  refine pq_eq (G_token_next_ok h172) ?_
  refine Tw ?_
  refine vq_subTs hb (fun t173 ht173 hb => ?_)
  refine Tw ?_
  refine fq_yield (tm := g148) (ps := [23]) (as := A_token_Lex_1) (bd := Y_token_Lex_1) Cw (by rfl) ?_
  refine wq_def A_token_Lex_1.eq_1 ?_
  refine Tw ?_
  refine Tw ?_
  refine wq_def Y_token_Lex_1.eq_1 ?_
  refine Tw ?_
  refine Tw ?_
  refine bq_if hb rfl (fun c181 hb => ?_) (fun c181 hb => ?_)
  ·have X := And.intro c181 X
   refine Tw ?_
   refine ⟨Ck, ?_⟩
   refine Tw ?_
   have hb := Option.some.inj hb
   subst hb
   have hn : _ = _ := hn
   subst hn
   refine Tw ?_
   exact ex0 _ _ v126 (21 : Int) v136 v137 v138 v139 o127 e128 M129 rfl Cw Cn s130
  ·have X := And.intro c181 X
   refine Tw ?_
   refine bq_if hb rfl (fun c185 hb => ?_) (fun c185 hb => ?_)
   ·have X := And.intro c185 X
    refine Tw ?_
    refine ⟨Ck, ?_⟩
    refine Tw ?_
    have hb := Option.some.inj hb
    subst hb
    have hn : _ = _ := hn
    subst hn
    refine Tw ?_
    exact ex0 _ _ v126 (22 : Int) v136 v137 v138 v139 o127 e128 M129 rfl Cw Cn s130
   ·have X := And.intro c185 X
    refine Tw ?_
    refine vq_bsl rfl ?_
    refine Tw ?_
    refine vq_app s130 Cw (show SlR 6 T_api_Tok.R (.own (h121.n + 1 + 1) false) 6 ([(T_api_Tok.mk r170 t173 [] v145 v138 v139)] : List T_api_Tok) [[(.int .i64 r170), (.str t173), (.str []), (.int .i64 v145), (.bool v138), (.bool v139)]] from (slr_cons (by simp) rfl (slr_0 (R := T_api_Tok.R)))) hb (fun t190 o191 M192 h193 ht190 hb s194 O195 F196 => ?_)
    have q197 := F196.n
    try simp only [HN] at q197
    have X := And.intro F196.box (And.intro F196.loop (And.intro F196.bty (And.intro O195 (And.intro s194.len X))))
    refine Tw ?_
    refine Tw ?_
    refine vq_subFs hb (fun t201 ht201 hb => ?_)
    refine Tw ?_
    refine ⟨Ck, ?_⟩
    refine Tw ?_
    refine bnd2 hb (fun r204 p205 h206 hb => ?_)
    try dsimp only at hb
    refine fq_mono0 (G_token_scan_skip_ok h206 Cw Cn) (fun h207 S213 => ?_)
    have z210 := S213.1
    have F208 := S213.2
    have q209 := F208.n
    try simp only [HN] at q209
    have O211 := F208.own (o := o191) Cw
    have hb := Option.some.inj hb
    subst hb
    have X := And.intro z210 (And.intro F208.box1 (And.intro F208.loop (And.intro F208.bty (And.intro O211 X))))
    refine Tw ?_
    exact hn _ _ o191 6 M192 Cw Cw Cn s194 ex0 ex1
 ·have hb := Option.some.inj hb
  subst hb
  have hn : _ = _ := hn
  subst hn
  have X := And.intro c169 X
  refine Tw ?_
  exact ex1 _ _ v126 v136 v137 v138 v139 o127 e128 M129 rfl Cw Cn s130
def G_token_Lex_L1 (v24 : List T_api_Line) (v29 : Int) (v43 : Int) (v45 : Int) : Int × List T_api_Tok × Bool × Int × Bool × Bool → Option ((Int × List T_api_Tok × Bool × Int × Bool × Bool) ⊕ (List T_api_Tok × Int × Int × Bool × Int × Bool × Bool)) := fun (v30, v37, v47, v48, v49, v50) =>
 if (decide (v30 < v29)) then
  idx v24 v30 >>= fun x66 =>
  (
   if (!v47) then
    some (false, true)
   else
    some (v49, v50)
  ) >>= fun (v94, v95) =>
  G_token_scan_skip (T_token_scan.mk v47 v48 v94 v95) x66.S_ x66.N_ >>= fun (r110, p111) =>
  loopO (G_token_Lex_L2 x66.N_) (r110, v37, p111.open_, p111.from_, p111.space_, p111.first_) >>= fun q245 => match q245 with
   | .a (v219, v224, v225, v226, v227, v228) =>
    some (Sum.inr (v219, v224, x66.N_, v225, v226, v227, v228))
   | .b (v235, v240, v241, v242, v243) =>
    some (Sum.inl ((IntKind.wrap .i64 (v30 + (1 : Int))), v235, v240, v241, v242, v243))
 else
  some (Sum.inr (v37, v43, v45, v47, v48, v49, v50))
theorem G_token_Lex_L1_ok {κ : Kt} {t : Blk κ} {v24 : List T_api_Line} {v29 : Int} {v43 : Int} {v45 : Int} {o25 : Own} {e26 : Nat} {M27 : List (List PV)} {b36 : Nat} {b42 : Nat} {b44 : Nat} {b46 : Nat} (v30 : Int) (v37 : List T_api_Tok) (v47 : Bool) (v48 : Int) (v49 : Bool) (v50 : Bool) (x : List T_api_Tok × Int × Int × Bool × Int × Bool × Bool) (hx : loopO (G_token_Lex_L1 v24 v29 v43 v45) (v30, v37, v47, v48, v49, v50) = some x) (s28 : SlR 2 T_api_Line.R o25 e26 v24 M27) : ∀ (f31 : Fr) (h32 : Heap) (o38 : Own) (e39 : Nat) (M40 : List (List PV)), (f31 5 = (.ptr b36 0) ∧ f31 6 = (.ptr b42 0) ∧ f31 7 = (.ptr b44 0) ∧ f31 8 = (.ptr b46 0) ∧ f31 14 = (.slice o25 e26 M27) ∧ f31 15 = (.int .i64 v29) ∧ f31 16 = (.int .i64 v30)) → (h32.box b36 = some [(.slice o38 e39 M40)] ∧ h32.box b42 = some [(.int .i64 v43)] ∧ h32.box b44 = some [(.int .i64 v45)] ∧ h32.box b46 = some [(.bool v47), (.int .i64 v48), (.bool v49), (.bool v50)] ∧ OwnOK h32 o38) → (b36 < b42 ∧ b42 < b44 ∧ b44 < b46 ∧ b46 < h32.n) → SlR 6 T_api_Tok.R o38 e39 v37 M40 → (∀ (f270 : Fr) (h271 : Heap) (v275 : List T_api_Tok) (v280 : Int) (v281 : Int) (v282 : Bool) (v283 : Int) (v284 : Bool) (v285 : Bool) (o276 : Own) (e277 : Nat) (M278 : List (List PV)), (v275, v280, v281, v282, v283, v284, v285) = x → (f270 5 = (.ptr b36 0) ∧ f270 6 = (.ptr b42 0) ∧ f270 7 = (.ptr b44 0) ∧ f270 8 = (.ptr b46 0) ∧ h271.box b36 = some [(.slice o276 e277 M278)] ∧ h271.box b42 = some [(.int .i64 v280)] ∧ h271.box b44 = some [(.int .i64 v281)] ∧ h271.box b46 = some [(.bool v282), (.int .i64 v283), (.bool v284), (.bool v285)] ∧ OwnOK h271 o276) → (b36 < b42 ∧ b42 < b44 ∧ b44 < b46 ∧ b46 < h271.n) → SlR 6 T_api_Tok.R o276 e277 v275 M278 → κ.B 0 f270 h271) → Lq E (.loop L_token_Lex_1) κ t f31 h32 := by
 revert v30 v37 v47 v48 v49 v50 x
 refine loop6' ?_
 intro v30 v37 v47 v48 v49 v50 r hb x hn f31 h32 o38 e39 M40 Y33 Y34 Y35 s41 ex0
 dsimp only [G_token_Lex_L1] at hb
 refine loop_step L_token_Lex_1.eq_1 ?_
 have X := And.intro Y33 (And.intro Y34 (And.intro s28.len (s41.len)))
 refine Tw ?_
 refine Tw ?_
 refine bq_if hb rfl (fun c65 hb => ?_) (fun c65 hb => ?_)
 ·have X := And.intro c65 X
  refine Tw ?_
  refine vq_iaddr s28 hb (fun x66 cs67 hx66 hb hcs67 => ?_)
  cases (show cs67 = [(.int .i64 x66.N_), (.str x66.S_)] from hcs67)
  refine Tw ?_
  refine fq_in fn_token_scan_toks (by rfl) ?_
  refine Tw ?_
  refine Tw ?_
  refine lq_range (E := E) (k := 65) (first := []) (cap := [(.ptr (h32.n + 1) 0), (.ptr (h32.n + 1 + 1) 0)]) fn_token_scan_toks_1 Cw (by rfl) (fun g76 eg76 => ?_)
  have qg76 : g76 5 = (.ptr b36 0) ∧ g76 6 = (.ptr b42 0) ∧ g76 7 = (.ptr b44 0) ∧ g76 8 = (.ptr b46 0) ∧ g76 10 = (.ptr h32.n 0) := by rw [eg76]; exact Cw
  have X := And.intro qg76 X
  refine Tw ?_
  refine bnd1 hb (fun j97 hj hb => ?_)
  refine wq_join (fun Z => ∀ (f89 : Fr) (h90 : Heap) (v94 : Bool) (v95 : Bool), (v94, v95) = j97 → (f89 0 = (.yield (h32.n + 1 + 1 + 1)) ∧ f89 1 = (.ptr (h32.n + 1) 0) ∧ f89 2 = (.ptr (h32.n + 1 + 1) 0) ∧ h90.box b36 = some [(.slice o38 e39 M40)] ∧ h90.box b42 = some [(.int .i64 v43)] ∧ h90.box b44 = some [(.int .i64 v45)] ∧ h90.box b46 = some [(.bool v47), (.int .i64 v48), (.bool v94), (.bool v95)] ∧ h90.box h32.n = some [(.int .i64 x66.N_), (.str x66.S_)] ∧ h90.box (h32.n + 1) = some [(.ptr b46 0)] ∧ h90.box (h32.n + 1 + 1) = some [(.int .i64 x66.N_), (.str x66.S_)] ∧ h90.loop (h32.n + 1 + 1 + 1) = some ⟨.ready, none, g76, [23], A_token_Lex_1, Y_token_Lex_1⟩ ∧ OwnOK h90 o38) → (b36 < b42 ∧ b42 < b44 ∧ b44 < b46 ∧ b46 < h32.n ∧ h32.n < (h32.n + 1) ∧ (h32.n + 1) < (h32.n + 1 + 1) ∧ (h32.n + 1 + 1) < (h32.n + 1 + 1 + 1) ∧ (h32.n + 1 + 1 + 1) < h90.n) → Z f89 h90) (fun Z hX85 => ?_) ?_
  ·have hr84 := hb
   clear hb
   have hb := hj
   clear hj
   refine wq_def J_token_scan_toks_1_1.eq_1 ?_
   refine Tw ?_
   refine Tw ?_
   refine bq_if hb rfl (fun c86 hb => ?_) (fun c86 hb => ?_)
   ·have X := And.intro c86 X
    refine Tw ?_
    refine ⟨Ck, ?_⟩
    have hb := Option.some.inj hb
    subst hb
    refine Tw ?_
    exact hX85 _ _ false true rfl Cw Cn
   ·have hb := Option.some.inj hb
    subst hb
    have X := And.intro c86 X
    refine Tw ?_
    exact hX85 _ _ v49 v50 rfl Cw Cn
  ·intro f89 h90 v94 v95 ej Y91 Y93
   subst ej
   try dsimp only at hb
   have X := And.intro Y91 X
   refine Tw ?_
   refine bnd2 hb (fun r110 p111 h112 hb => ?_)
   try dsimp only at hb
   refine fq_mono0 (G_token_scan_skip_ok h112 Cw Cn) (fun h113 S269 => ?_)
   have z116 := S269.1
   have F114 := S269.2
   have q115 := F114.n
   try simp only [HN] at q115
   have O117 := F114.own (o := o38) Cw
   have X := And.intro z116 (And.intro F114.box1 (And.intro F114.loop (And.intro F114.bty (And.intro O117 X))))
   refine Tw ?_
   refine bnd1 hb (fun q245 h246 hb => ?_)
   refine G_token_Lex_L2_ok (v132 := v43) (v134 := v45) (v141 := x66.N_) (v142 := x66.S_) (v146 := x66.S_) (b125 := b36) (b131 := b42) (b133 := b44) (b135 := b46) (b140 := h32.n) (b143 := (h32.n + 1)) (b144 := (h32.n + 1 + 1)) (l147 := (h32.n + 1 + 1 + 1)) (g148 := g76) _ _ _ _ _ _ _ h246 _ _ o38 e39 M40 Cw Cw Cn s41 ?_ ?_
   ·intro f214 h215 v219 v224 v225 v226 v227 v228 o220 e221 M222 ex Y216 Y218 s223
    subst ex
    try dsimp only at hb
    have X := And.intro Y216 (And.intro s223.len X)
    refine Tw ?_
    have hb := Option.some.inj hb
    subst hb
    have hn : _ = _ := hn
    subst hn
    refine Tw ?_
    exact ex0 _ _ v219 v224 x66.N_ v225 v226 v227 v228 o220 e221 M222 rfl Cw Cn s223
   ·intro f230 h231 v235 v240 v241 v242 v243 o236 e237 M238 ex Y232 Y234 s239
    subst ex
    try dsimp only at hb
    have X := And.intro Y232 (And.intro s239.len X)
    refine Tw ?_
    have hb := Option.some.inj hb
    subst hb
    refine Tw ?_
    exact hn _ _ o236 e237 M238 Cw Cw Cn s239 ex0
 ·have hb := Option.some.inj hb
  subst hb
  have hn : _ = _ := hn
  subst hn
  have X := And.intro c65 X
  refine Tw ?_
  exact ex0 _ _ v37 v43 v45 v47 v48 v49 v50 o38 e39 M40 rfl Cw Cn s41
def G_token_Lex (l_2 : List T_api_Line) : Option (List T_api_Tok × Int × Int) :=
 loopO (G_token_Lex_L1 l_2 ((List.length l_2 : Nat) : Int) (0 : Int) (0 : Int)) ((0 : Int), ([] : List T_api_Tok), false, (0 : Int), false, false) >>= fun (v275, v280, v281, v282, v283, v284, v285) =>
 (
  if (v280 == (0 : Int)) then
   if v282 then
    some ((20 : Int), v283)
   else
    some (v280, v281)
  else
   some (v280, v281)
 ) >>= fun (v311, v312) =>
 if (!(v311 == (0 : Int))) then
  some (([] : List T_api_Tok), v311, v312)
 else
  some (v275, (0 : Int), (0 : Int))
theorem G_token_Lex_ok {l_2 : List T_api_Line} {o3 : Own} {e4 : Nat} {M5 : List (List PV)} {r7 : List T_api_Tok} {r8 : Int} {r9 : Int} (hx : G_token_Lex l_2 = some (r7, r8, r9)) (s6 : SlR 2 T_api_Line.R o3 e4 l_2 M5) : PureE E 24 [(.slice o3 e4 M5)] (fun v => ∃ o10 e11 M12, v = (.tuple [(.slice o10 e11 M12), (.int .i64 r8), (.int .i64 r9)]) ∧ SlR 6 T_api_Tok.R o10 e11 r7 M12) := by
 refine pureE_ok fn_token_Lex rfl ?_
 have hb := hx
 dsimp only [G_token_Lex] at hb
 have X := s6.len
 refine Tw ?_
 refine bnd1 hb (fun q287 h288 hb => ?_)
 refine G_token_Lex_L1_ok (o25 := o3) (e26 := e4) (M27 := M5) (b36 := 0) (b42 := 1) (b44 := 2) (b46 := 3) _ _ _ _ _ _ _ h288 s6 _ _ .nil 0 [] Cw Cw Cn slr_nil ?_
 ·intro f270 h271 v275 v280 v281 v282 v283 v284 v285 o276 e277 M278 ex Y272 Y274 s279
  subst ex
  try dsimp only at hb
  have X := And.intro Y272 (And.intro s279.len X)
  refine Tw ?_
  refine bnd1 hb (fun j314 hj hb => ?_)
  refine wq_join (fun Z => ∀ (f306 : Fr) (h307 : Heap) (v311 : Int) (v312 : Int), (v311, v312) = j314 → (f306 5 = (.ptr 0 0) ∧ f306 6 = (.ptr 1 0) ∧ f306 7 = (.ptr 2 0) ∧ h307.box 0 = some [(.slice o276 e277 M278)] ∧ h307.box 1 = some [(.int .i64 v311)] ∧ h307.box 2 = some [(.int .i64 v312)] ∧ OwnOK h307 o276) → (0 < 1 ∧ 1 < 2 ∧ 2 < h307.n) → Z f306 h307) (fun Z hX301 => ?_) ?_
  ·have hr300 := hb
   clear hb
   have hb := hj
   clear hj
   refine wq_def J_token_Lex_1.eq_1 ?_
   refine Tw ?_
   refine Tw ?_
   refine bq_if hb rfl (fun c302 hb => ?_) (fun c302 hb => ?_)
   ·have X := And.intro c302 X
    refine Tw ?_
    refine bq_if hb rfl (fun c303 hb => ?_) (fun c303 hb => ?_)
    ·have X := And.intro c303 X
     refine Tw ?_
     refine ⟨Ck, ?_⟩
     have hb := Option.some.inj hb
     subst hb
     refine Tw ?_
     exact hX301 _ _ (20 : Int) v283 rfl Cw Cn
    ·have hb := Option.some.inj hb
     subst hb
     have X := And.intro c303 X
     refine Tw ?_
     exact hX301 _ _ v280 v281 rfl Cw Cn
   ·have hb := Option.some.inj hb
    subst hb
    have X := And.intro c302 X
    refine Tw ?_
    exact hX301 _ _ v280 v281 rfl Cw Cn
  ·intro f306 h307 v311 v312 ej Y308 Y310
   subst ej
   try dsimp only at hb
   have X := And.intro Y308 X
   refine Tw ?_
   refine bq_if hb rfl (fun c322 hb => ?_) (fun c322 hb => ?_)
   ·have hb := Option.some.inj hb
    obtain ⟨e0, hb⟩ := Prod.mk.inj hb
    obtain ⟨e1, e2⟩ := Prod.mk.inj hb
    subst e0
    subst e1
    subst e2
    have X := And.intro c322 X
    refine Tw ?_
    exact endI ⟨.nil, 0, [], rfl, (slr_nil (R := T_api_Tok.R)).st⟩
   ·have hb := Option.some.inj hb
    obtain ⟨e0, hb⟩ := Prod.mk.inj hb
    obtain ⟨e1, e2⟩ := Prod.mk.inj hb
    subst e0
    subst e1
    subst e2
    have X := And.intro c322 X
    refine Tw ?_
    exact endI ⟨(stO o276), e277, M278, rfl, s279.st⟩
def G_token_One (s_2 : Bytes) : Option (T_api_Tok × Bool) :=
 G_token_Lex ([(T_api_Line.mk (1 : Int) s_2)] : List T_api_Line) >>= fun (r15, r20, r21) =>
 if (!(r20 == (0 : Int))) then
  some ((T_api_Tok.mk (0 : Int) [] [] (0 : Int) false false), false)
 else
  if (!(((List.length r15 : Nat) : Int) == (1 : Int))) then
   some ((T_api_Tok.mk (0 : Int) [] [] (0 : Int) false false), false)
  else
   idx r15 (0 : Int) >>= fun x27 =>
   if (!(x27.S_ == s_2)) then
    some ((T_api_Tok.mk (0 : Int) [] [] (0 : Int) false false), false)
   else
    idx r15 (0 : Int) >>= fun x31 =>
    some (x31, true)
theorem G_token_One_ok {s_2 : Bytes} {r3 : T_api_Tok} {r4 : Bool} (hx : G_token_One s_2 = some (r3, r4)) : PureE E 47 [(.str s_2)] (fun v => v = (.tuple [(.agg [(.int .i64 r3.Kind_), (.str r3.S_), (.str r3.File_), (.int .i64 r3.Line_), (.bool r3.Space_), (.bool r3.First_)]), (.bool r4)])) := by
 refine pureE_ok fn_token_One rfl ?_
 have hb := hx
 dsimp only [G_token_One] at hb
 have X := True.intro
 refine Tw ?_
 refine vq_new rfl (fun o7 h8 n12 O9 F10 => ?_)
 have q11 := F10.n
 try simp only [HN] at q11
 have s13 : SlR 2 T_api_Line.R o7 2 ([(T_api_Line.mk (1 : Int) s_2)] : List T_api_Line) [[(.int .i64 (1 : Int)), (.str s_2)]] := (slr_cons n12 rfl (slr_0 (R := T_api_Line.R)))
 have X := And.intro F10.box (And.intro F10.loop (And.intro F10.bty (And.intro O9 X)))
 refine Tw ?_
 refine bnd3 hb (fun r15 r20 r21 h22 hb => ?_)
 try dsimp only at hb
 refine pq_in1 (G_token_Lex_ok h22 s13.st) (fun o16 e17 M18 s19 => ?_)
 have X := And.intro s19.len X
 refine Tw ?_
 refine bq_if hb rfl (fun c23 hb => ?_) (fun c23 hb => ?_)
 ·have hb := Option.some.inj hb
  obtain ⟨e0, e1⟩ := Prod.mk.inj hb
  subst e0
  subst e1
  have X := And.intro c23 X
  refine Tw ?_
  exact endI rfl
 ·have X := And.intro c23 X
  refine Tw ?_
  refine bq_if hb rfl (fun c25 hb => ?_) (fun c25 hb => ?_)
  ·have hb := Option.some.inj hb
   obtain ⟨e0, e1⟩ := Prod.mk.inj hb
   subst e0
   subst e1
   have X := And.intro c25 X
   refine Tw ?_
   exact endI rfl
  ·have X := And.intro c25 X
   refine Tw ?_
   refine vq_iaddr s19 hb (fun x27 cs28 hx27 hb hcs28 => ?_)
   cases (show cs28 = [(.int .i64 x27.Kind_), (.str x27.S_), (.str x27.File_), (.int .i64 x27.Line_), (.bool x27.Space_), (.bool x27.First_)] from hcs28)
   refine Tw ?_
   refine bq_if hb rfl (fun c29 hb => ?_) (fun c29 hb => ?_)
   ·have hb := Option.some.inj hb
    obtain ⟨e0, e1⟩ := Prod.mk.inj hb
    subst e0
    subst e1
    have X := And.intro c29 X
    refine Tw ?_
    exact endI rfl
   ·have X := And.intro c29 X
    refine Tw ?_
    refine vq_iaddr s19 hb (fun x31 cs32 hx31 hb hcs32 => ?_)
    cases (show cs32 = [(.int .i64 x31.Kind_), (.str x31.S_), (.str x31.File_), (.int .i64 x31.Line_), (.bool x31.Space_), (.bool x31.First_)] from hcs32)
    have hb := Option.some.inj hb
    obtain ⟨e0, e1⟩ := Prod.mk.inj hb
    subst e0
    subst e1
    refine Tw ?_
    exact endI rfl
def G_lex_IsKey (s_2 : Bytes) : Option (Bool) :=
 if (s_2 == ([99, 104, 97, 114] : Bytes)) then
  some true
 else
  if (s_2 == ([115, 104, 111, 114, 116] : Bytes)) then
   some true
  else
   if (s_2 == ([105, 110, 116] : Bytes)) then
    some true
   else
    if (s_2 == ([108, 111, 110, 103] : Bytes)) then
     some true
    else
     if (s_2 == ([115, 105, 103, 110, 101, 100] : Bytes)) then
      some true
     else
      if (s_2 == ([117, 110, 115, 105, 103, 110, 101, 100] : Bytes)) then
       some true
      else
       if (s_2 == ([118, 111, 105, 100] : Bytes)) then
        some true
       else
        if (s_2 == ([105, 102] : Bytes)) then
         some true
        else
         if (s_2 == ([101, 108, 115, 101] : Bytes)) then
          some true
         else
          if (s_2 == ([119, 104, 105, 108, 101] : Bytes)) then
           some true
          else
           if (s_2 == ([114, 101, 116, 117, 114, 110] : Bytes)) then
            some true
           else
            if (s_2 == ([98, 114, 101, 97, 107] : Bytes)) then
             some true
            else
             if (s_2 == ([99, 111, 110, 116, 105, 110, 117, 101] : Bytes)) then
              some true
             else
              if (s_2 == ([115, 116, 114, 117, 99, 116] : Bytes)) then
               some true
              else
               if (s_2 == ([117, 110, 105, 111, 110] : Bytes)) then
                some true
               else
                if (s_2 == ([101, 120, 116, 101, 114, 110] : Bytes)) then
                 some true
                else
                 some false
theorem G_lex_IsKey_ok {s_2 : Bytes} {r3 : Bool} (hx : G_lex_IsKey s_2 = some r3) : PureE E 19 [(.str s_2)] (fun v => v = (.bool r3)) := by
 refine pureE_ok fn_lex_IsKey rfl ?_
 have hb := hx
 dsimp only [G_lex_IsKey] at hb
 have X := True.intro
 refine Tw ?_
 refine bq_if hb rfl (fun c4 hb => ?_) (fun c4 hb => ?_)
 ·have hb := Option.some.inj hb
  subst hb
  have X := And.intro c4 X
  refine Tw ?_
  exact endI rfl
 ·have X := And.intro c4 X
  refine Tw ?_
  refine bq_if hb rfl (fun c5 hb => ?_) (fun c5 hb => ?_)
  ·have hb := Option.some.inj hb
   subst hb
   have X := And.intro c5 X
   refine Tw ?_
   exact endI rfl
  ·have X := And.intro c5 X
   refine Tw ?_
   refine bq_if hb rfl (fun c6 hb => ?_) (fun c6 hb => ?_)
   ·have hb := Option.some.inj hb
    subst hb
    have X := And.intro c6 X
    refine Tw ?_
    exact endI rfl
   ·have X := And.intro c6 X
    refine Tw ?_
    refine bq_if hb rfl (fun c7 hb => ?_) (fun c7 hb => ?_)
    ·have hb := Option.some.inj hb
     subst hb
     have X := And.intro c7 X
     refine Tw ?_
     exact endI rfl
    ·have X := And.intro c7 X
     refine Tw ?_
     refine bq_if hb rfl (fun c8 hb => ?_) (fun c8 hb => ?_)
     ·have hb := Option.some.inj hb
      subst hb
      have X := And.intro c8 X
      refine Tw ?_
      exact endI rfl
     ·have X := And.intro c8 X
      refine Tw ?_
      refine bq_if hb rfl (fun c9 hb => ?_) (fun c9 hb => ?_)
      ·have hb := Option.some.inj hb
       subst hb
       have X := And.intro c9 X
       refine Tw ?_
       exact endI rfl
      ·have X := And.intro c9 X
       refine Tw ?_
       refine bq_if hb rfl (fun c10 hb => ?_) (fun c10 hb => ?_)
       ·have hb := Option.some.inj hb
        subst hb
        have X := And.intro c10 X
        refine Tw ?_
        exact endI rfl
       ·have X := And.intro c10 X
        refine Tw ?_
        refine bq_if hb rfl (fun c11 hb => ?_) (fun c11 hb => ?_)
        ·have hb := Option.some.inj hb
         subst hb
         have X := And.intro c11 X
         refine Tw ?_
         exact endI rfl
        ·have X := And.intro c11 X
         refine Tw ?_
         refine bq_if hb rfl (fun c12 hb => ?_) (fun c12 hb => ?_)
         ·have hb := Option.some.inj hb
          subst hb
          have X := And.intro c12 X
          refine Tw ?_
          exact endI rfl
         ·have X := And.intro c12 X
          refine Tw ?_
          refine bq_if hb rfl (fun c13 hb => ?_) (fun c13 hb => ?_)
          ·have hb := Option.some.inj hb
           subst hb
           have X := And.intro c13 X
           refine Tw ?_
           exact endI rfl
          ·have X := And.intro c13 X
           refine Tw ?_
           refine bq_if hb rfl (fun c14 hb => ?_) (fun c14 hb => ?_)
           ·have hb := Option.some.inj hb
            subst hb
            have X := And.intro c14 X
            refine Tw ?_
            exact endI rfl
           ·have X := And.intro c14 X
            refine Tw ?_
            refine bq_if hb rfl (fun c15 hb => ?_) (fun c15 hb => ?_)
            ·have hb := Option.some.inj hb
             subst hb
             have X := And.intro c15 X
             refine Tw ?_
             exact endI rfl
            ·have X := And.intro c15 X
             refine Tw ?_
             refine bq_if hb rfl (fun c16 hb => ?_) (fun c16 hb => ?_)
             ·have hb := Option.some.inj hb
              subst hb
              have X := And.intro c16 X
              refine Tw ?_
              exact endI rfl
             ·have X := And.intro c16 X
              refine Tw ?_
              refine bq_if hb rfl (fun c17 hb => ?_) (fun c17 hb => ?_)
              ·have hb := Option.some.inj hb
               subst hb
               have X := And.intro c17 X
               refine Tw ?_
               exact endI rfl
              ·have X := And.intro c17 X
               refine Tw ?_
               refine bq_if hb rfl (fun c18 hb => ?_) (fun c18 hb => ?_)
               ·have hb := Option.some.inj hb
                subst hb
                have X := And.intro c18 X
                refine Tw ?_
                exact endI rfl
               ·have X := And.intro c18 X
                refine Tw ?_
                refine bq_if hb rfl (fun c19 hb => ?_) (fun c19 hb => ?_)
                ·have hb := Option.some.inj hb
                 subst hb
                 have X := And.intro c19 X
                 refine Tw ?_
                 exact endI rfl
                ·have hb := Option.some.inj hb
                 subst hb
                 have X := And.intro c19 X
                 refine Tw ?_
                 exact endI rfl
end Go.Proofs.YtmngkcpobmhnoaaGreatDoor.Sim
