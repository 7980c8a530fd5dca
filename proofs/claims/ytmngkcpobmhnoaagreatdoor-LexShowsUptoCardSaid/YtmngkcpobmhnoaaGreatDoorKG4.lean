/- Printed functions, continued. -/
import Derived.Test.YtmngkcpobmhnoaaGreatDoorKG3
set_option linter.all false
set_option maxHeartbeats 4000000
set_option maxRecDepth 20000
namespace Go.Proofs.YtmngkcpobmhnoaaGreatDoor.Sim
def G_lex_Show (l_2 : List T_api_Word) : Option (Bytes × Int) :=
 loopO (G_lex_Show_L1 l_2 l_2 ((List.length l_2 : Nat) : Int)) ((0 : Int), ([] : Bytes)) >>= fun q820 => match q820 with
  | .a v799 =>
   some (([] : Bytes), (2 : Int))
  | .b v812 =>
   some (v812, (0 : Int))
theorem G_lex_Show_ok {l_2 : List T_api_Word} {o3 : Own} {e4 : Nat} {M5 : List (List PV)} {r7 : Bytes} {r8 : Int} (hx : G_lex_Show l_2 = some (r7, r8)) (s6 : SlR 6 T_api_Word.R o3 e4 l_2 M5) : PureE E 33 [(.slice o3 e4 M5)] (fun v => v = (.tuple [(.str r7), (.int .i64 r8)])) := by
 refine pureE_ok fn_lex_Show rfl ?_
 have hb := hx
 dsimp only [G_lex_Show] at hb
 have X := s6.len
 refine Tw ?_
 refine bnd1 hb (fun q820 h821 hb => ?_)
 refine G_lex_Show_L1_ok (o12 := o3) (e13 := e4) (M14 := M5) (o17 := o3) (e18 := e4) (M19 := M5) (b28 := 0) _ _ _ h821 s6 s6 _ _ .nilptr .nil 0 [] Cw Cw Cn slr_nil bda_nil ?_ ?_
 ·intro f794 h795 v799 a800 o801 e802 M803 ex Y796 Y798 s804 s805
  subst ex
  try dsimp only at hb
  have hb := Option.some.inj hb
  obtain ⟨e0, e1⟩ := Prod.mk.inj hb
  subst e0
  subst e1
  have X := And.intro Y796 (And.intro s804.len X)
  refine Tw ?_
  exact endI rfl
 ·intro f807 h808 v812 a813 o814 e815 M816 ex Y809 Y811 s817 s818
  subst ex
  try dsimp only at hb
  have X := And.intro Y809 (And.intro s817.len X)
  refine Tw ?_
  refine fq_bs Cw s818 s817 Cw ?_
  have hb := Option.some.inj hb
  obtain ⟨e0, e1⟩ := Prod.mk.inj hb
  subst e0
  subst e1
  refine Tw ?_
  exact endI rfl
def G_burinref07_octal (c_2 : Int) : Option (Bytes) :=
 shr .u8 c_2 (6 : Int) >>= fun i4 =>
 shr .u8 c_2 (3 : Int) >>= fun i5 =>
 b8 (IntKind.wrap .u8 ((48 : Int) + i4)) >>= fun c6 =>
 b8 (IntKind.wrap .u8 ((48 : Int) + (band .u8 i5 (7 : Int)))) >>= fun c7 =>
 b8 (IntKind.wrap .u8 ((48 : Int) + (band .u8 c_2 (7 : Int)))) >>= fun c8 =>
 some ([(92 : UInt8), c6, c7, c8] : List UInt8)
theorem G_burinref07_octal_ok {c_2 : Int} {r3 : Bytes} (hx : G_burinref07_octal c_2 = some r3) : PureE E 78 [(.int .u8 c_2)] (fun v => v = (.str r3)) := by
 refine pureE_ok fn_burinref07_octal rfl ?_
 have hb := hx
 dsimp only [G_burinref07_octal] at hb
 have X := True.intro
 refine Tw ?_
 refine vq_shr hb (fun i4 hi4 hb => ?_)
 refine Tw ?_
 refine vq_shr hb (fun i5 hi5 hb => ?_)
 refine b8b1 hb (fun c6 hc6 ec6 hb => ?_)
 refine b8b1 hb (fun c7 hc7 ec7 hb => ?_)
 refine b8b1 hb (fun c8 hc8 ec8 hb => ?_)
 refine Tw ?_
 refine vq_new rfl (fun o9 h10 n14 O11 F12 => ?_)
 have q13 := F12.n
 try simp only [HN] at q13
 have s15 : SlR 1 R8 o9 1 ([(92 : UInt8), c6, c7, c8] : List UInt8) [[(.int .u8 (92 : Int))], [(.int .u8 (IntKind.wrap .u8 ((48 : Int) + i4)))], [(.int .u8 (IntKind.wrap .u8 ((48 : Int) + (band .u8 i5 (7 : Int)))))], [(.int .u8 (IntKind.wrap .u8 ((48 : Int) + (band .u8 c_2 (7 : Int)))))]] := (slr_cons n14 rfl (slr_cons n14 (r8_of hc6) (slr_cons n14 (r8_of hc7) (slr_cons n14 (r8_of hc8) (slr_0 (R := R8))))))
 have X := And.intro F12.box (And.intro F12.loop (And.intro F12.bty (And.intro O11 X)))
 refine Tw ?_
 refine vq_b2s s15 ?_
 have hb := Option.some.inj hb
 subst hb
 refine Tw ?_
 exact endI rfl
def G_burinref07_digits_L1  : Int × Bytes → Option ((Int × Bytes) ⊕ (Bytes)) := fun (n_4, s_5) =>
 if (s_5 == ([] : Bytes)) then
  rem n_4 (10 : Int) >>= fun i16 =>
  b8 (IntKind.wrap .u8 (IntKind.wrap .u64 ((48 : Int) + i16))) >>= fun c17 =>
  cat ([c17] : List UInt8) s_5 >>= fun t26 =>
  quo .u64 n_4 (10 : Int) >>= fun i27 =>
  some (Sum.inl (i27, t26))
 else
  if (decide ((0 : Int) < n_4)) then
   rem n_4 (10 : Int) >>= fun i29 =>
   b8 (IntKind.wrap .u8 (IntKind.wrap .u64 ((48 : Int) + i29))) >>= fun c30 =>
   cat ([c30] : List UInt8) s_5 >>= fun t39 =>
   quo .u64 n_4 (10 : Int) >>= fun i40 =>
   some (Sum.inl (i40, t39))
  else
   some (Sum.inr s_5)
theorem G_burinref07_digits_L1_ok {κ : Kt} {t : Blk κ}  (n_4 : Int) (s_5 : Bytes) (x : Bytes) (hx : loopO (G_burinref07_digits_L1) (n_4, s_5) = some x) : ∀ (f6 : Fr) (h7 : Heap), (f6 0 = (.int .u64 n_4) ∧ f6 3 = (.str s_5)) → (True) → (True) → (∀ (f42 : Fr) (h43 : Heap) (s_41 : Bytes), s_41 = x → (f42 3 = (.str s_41)) → (True) → κ.B 0 f42 h43) → Lq E (.loop L_burinref07_digits_1) κ t f6 h7 := by
 revert n_4 s_5 x
 refine loop2' ?_
 intro n_4 s_5 r hb x hn f6 h7  Y8 Y9 Y10  ex0
 dsimp only [G_burinref07_digits_L1] at hb
 refine loop_step L_burinref07_digits_1.eq_1 ?_
 have X := Y8
 refine Tw ?_
 refine Tw ?_
 refine bq_if hb rfl (fun c15 hb => ?_) (fun c15 hb => ?_)
 ·have X := And.intro c15 X
  refine Tw ?_
  refine vq_rem hb (fun i16 hi16 hb => ?_)
  refine b8b1 hb (fun c17 hc17 ec17 hb => ?_)
  refine Tw ?_
  refine vq_new rfl (fun o18 h19 n23 O20 F21 => ?_)
  have q22 := F21.n
  try simp only [HN] at q22
  have s24 : SlR 1 R8 o18 1 ([c17] : List UInt8) [[(.int .u8 (IntKind.wrap .u8 (IntKind.wrap .u64 ((48 : Int) + i16))))]] := (slr_cons n23 (r8_of hc17) (slr_0 (R := R8)))
  have X := And.intro F21.box (And.intro F21.loop (And.intro F21.bty (And.intro O20 X)))
  refine Tw ?_
  refine vq_b2s s24 ?_
  refine Tw ?_
  refine vq_cat hb (fun t26 ht26 hb => ?_)
  refine Tw ?_
  refine vq_quo hb (fun i27 hi27 hb => ?_)
  have hb := Option.some.inj hb
  subst hb
  refine Tw ?_
  exact hn _ _  Cw trivial trivial ex0
 ·have X := And.intro c15 X
  refine Tw ?_
  refine bq_if hb rfl (fun c28 hb => ?_) (fun c28 hb => ?_)
  ·have X := And.intro c28 X
   refine Tw ?_
   refine vq_rem hb (fun i29 hi29 hb => ?_)
   refine b8b1 hb (fun c30 hc30 ec30 hb => ?_)
   refine Tw ?_
   refine vq_new rfl (fun o31 h32 n36 O33 F34 => ?_)
   have q35 := F34.n
   try simp only [HN] at q35
   have s37 : SlR 1 R8 o31 1 ([c30] : List UInt8) [[(.int .u8 (IntKind.wrap .u8 (IntKind.wrap .u64 ((48 : Int) + i29))))]] := (slr_cons n36 (r8_of hc30) (slr_0 (R := R8)))
   have X := And.intro F34.box (And.intro F34.loop (And.intro F34.bty (And.intro O33 X)))
   refine Tw ?_
   refine vq_b2s s37 ?_
   refine Tw ?_
   refine vq_cat hb (fun t39 ht39 hb => ?_)
   refine Tw ?_
   refine vq_quo hb (fun i40 hi40 hb => ?_)
   have hb := Option.some.inj hb
   subst hb
   refine Tw ?_
   exact hn _ _  Cw trivial trivial ex0
  ·have hb := Option.some.inj hb
   subst hb
   have hn : _ = _ := hn
   subst hn
   have X := And.intro c28 X
   refine Tw ?_
   exact ex0 _ _ s_5 rfl Cw trivial
def G_burinref07_digits (n_2 : Int) : Option (Bytes) :=
 loopO (G_burinref07_digits_L1) (n_2, ([] : Bytes)) >>= fun s_41 =>
 some s_41
theorem G_burinref07_digits_ok {n_2 : Int} {r3 : Bytes} (hx : G_burinref07_digits n_2 = some r3) : PureE E 79 [(.int .u64 n_2)] (fun v => v = (.str r3)) := by
 refine pureE_ok fn_burinref07_digits rfl ?_
 have hb := hx
 dsimp only [G_burinref07_digits] at hb
 have X := True.intro
 refine Tw ?_
 refine bnd1 hb (fun q48 h49 hb => ?_)
 refine G_burinref07_digits_L1_ok _ _ _ h49 _ _ Cw trivial trivial ?_
 ·intro f42 h43 s_41 ex Y44 Y46
  subst ex
  have hb := Option.some.inj hb
  subst hb
  have X := And.intro Y44 X
  refine Tw ?_
  exact endI rfl
def G_burinref07_show_L1 (v95 : Bytes) : List UInt8 × Int → Option ((List UInt8 × Int) ⊕ (List UInt8)) := fun (b_82, i_87) =>
 if (decide (i_87 < ((List.length v95 : Nat) : Int))) then
  idx v95 i_87 >>= fun x108 =>
  G_burinref07_octal (x108.toNat : Int) >>= fun r109 =>
  app 1 b_82 r109 >>= fun t111 =>
  some (Sum.inl (t111, (IntKind.wrap .i64 (i_87 + (1 : Int)))))
 else
  some (Sum.inr b_82)
theorem G_burinref07_show_L1_ok {κ : Kt} {t : Blk κ} {v94 : Int} {v95 : Bytes} {v96 : Int} {v97 : Int} {v98 : Bytes} {v99 : Int} {b93 : Nat} (b_82 : List UInt8) (i_87 : Int) (x : List UInt8) (hx : loopO (G_burinref07_show_L1 v95) (b_82, i_87) = some x) : ∀ (f88 : Fr) (h89 : Heap) (o83 : Own) (e84 : Nat) (M85 : List (List PV)), (f88 1 = (.ptr b93 0) ∧ f88 4 = (.slice o83 e84 M85) ∧ f88 5 = (.int .i64 i_87)) → (h89.box b93 = some [(.int .i64 v94), (.str v95), (.int .i64 v96), (.int .i64 v97), (.str v98), (.int .i64 v99)] ∧ OwnOK h89 o83) → (b93 < h89.n) → SlR 1 R8 o83 e84 b_82 M85 → (∀ (f125 : Fr) (h126 : Heap) (b_120 : List UInt8) (o121 : Own) (e122 : Nat) (M123 : List (List PV)), b_120 = x → (f125 4 = (.slice o121 e122 M123) ∧ h126.box b93 = some [(.int .i64 v94), (.str v95), (.int .i64 v96), (.int .i64 v97), (.str v98), (.int .i64 v99)] ∧ OwnOK h126 o121) → (b93 < h126.n) → SlR 1 R8 o121 e122 b_120 M123 → κ.B 1 f125 h126) → Lq E (.loop L_burinref07_show_1) κ t f88 h89 := by
 revert b_82 i_87 x
 refine loop2' ?_
 intro b_82 i_87 r hb x hn f88 h89 o83 e84 M85 Y90 Y91 Y92 s86 ex0
 dsimp only [G_burinref07_show_L1] at hb
 refine loop_step L_burinref07_show_1.eq_1 ?_
 have X := And.intro Y90 (And.intro Y91 (s86.len))
 refine Tw ?_
 refine Tw ?_
 refine bq_if hb rfl (fun c107 hb => ?_) (fun c107 hb => ?_)
 ·have X := And.intro c107 X
  refine Tw ?_
  refine vq_idxS hb (fun x108 hx108 hb => ?_)
  refine Tw ?_
  refine bnd1 hb (fun r109 h110 hb => ?_)
  refine pq_eq (G_burinref07_octal_ok h110) ?_
  refine Tw ?_
  refine vq_app8 s86 Cw hb (fun t111 o112 M113 h114 ht111 hb s115 O116 F117 => ?_)
  have q118 := F117.n
  try simp only [HN] at q118
  have hb := Option.some.inj hb
  subst hb
  have X := And.intro F117.box (And.intro F117.loop (And.intro F117.bty (And.intro O116 (And.intro s115.len X))))
  refine Tw ?_
  exact hn _ _ o112 1 M113 Cw Cw Cn s115 ex0
 ·have hb := Option.some.inj hb
  subst hb
  have hn : _ = _ := hn
  subst hn
  have X := And.intro c107 X
  refine Tw ?_
  exact ex0 _ _ b_82 o83 e84 M85 rfl Cw Cn s86
def G_burinref07_show (w_2 : T_api_Word) : Option (Bytes) :=
 if (w_2.Kind_ == (3 : Int)) then
  (
   (
    if (w_2.T_ == (5 : Int)) then
     some (decide (w_2.V_ < (0 : Int)))
    else
     some false
   ) >>= fun v14 =>
   if v14 then
    G_burinref07_octal (IntKind.wrap .u8 w_2.V_) >>= fun r26 =>
    cat ([39] : Bytes) r26 >>= fun t28 =>
    cat t28 ([39] : Bytes) >>= fun t29 =>
    some (Ex2.a t29)
   else
    some (Ex2.b ())
  ) >>= fun j37 => match j37 with
   | .a q => some q
   | .b () =>
    (
     if (w_2.T_ == (6 : Int)) then
      some ([117] : Bytes)
     else
      some ([] : Bytes)
    ) >>= fun end_44 =>
    (
     if (w_2.T_ == (7 : Int)) then
      some ([108] : Bytes)
     else
      some end_44
    ) >>= fun end_57 =>
    if (w_2.T_ == (8 : Int)) then
     G_burinref07_digits (IntKind.wrap .u64 w_2.V_) >>= fun r67 =>
     cat r67 ([117, 108] : Bytes) >>= fun t69 =>
     some t69
    else
     G_burinref07_digits (IntKind.wrap .u64 w_2.V_) >>= fun r70 =>
     cat r70 end_57 >>= fun t72 =>
     some t72
 else
  if (w_2.Kind_ == (4 : Int)) then
   loopO (G_burinref07_show_L1 w_2.S_) (([(34 : UInt8)] : List UInt8), (0 : Int)) >>= fun b_120 =>
   app 1 b_120 [(34 : UInt8)] >>= fun t138 =>
   some t138
  else
   some w_2.S_
theorem G_burinref07_show_ok {w_2 : T_api_Word} {r3 : Bytes} (hx : G_burinref07_show w_2 = some r3) : PureE E 53 [(.agg [(.int .i64 w_2.Kind_), (.str w_2.S_), (.int .i64 w_2.V_), (.int .i64 w_2.T_), (.str w_2.File_), (.int .i64 w_2.Line_)])] (fun v => v = (.str r3)) := by
 refine pureE_ok fn_burinref07_show rfl ?_
 have hb := hx
 dsimp only [G_burinref07_show] at hb
 have X := True.intro
 refine Tw ?_
 refine bq_if hb rfl (fun c6 hb => ?_) (fun c6 hb => ?_)
 ·have X := And.intro c6 X
  refine Tw ?_
  refine bnd1 hb (fun j37 hj hb => ?_)
  refine wq_join (fun Z => ∀ (f31 : Fr) (h32 : Heap), Ex2.b () = j37 → (f31 1 = (.ptr 0 0) ∧ h32.box 0 = some [(.int .i64 w_2.Kind_), (.str w_2.S_), (.int .i64 w_2.V_), (.int .i64 w_2.T_), (.str w_2.File_), (.int .i64 w_2.Line_)]) → (0 < h32.n) → Z f31 h32) (fun Z hX9 => ?_) ?_
  ·have hr8 := hb
   clear hb
   have hb := hj
   clear hj
   refine wq_def J_burinref07_show_1.eq_1 ?_
   refine Tw ?_
   refine Tw ?_
   refine bnd1 hb (fun j21 hj hb => ?_)
   refine wq_join (fun Z => ∀ (f15 : Fr) (h16 : Heap) (v14 : Bool), v14 = j21 → (f15 1 = (.ptr 0 0) ∧ f15 17 = (.bool v14) ∧ h16.box 0 = some [(.int .i64 w_2.Kind_), (.str w_2.S_), (.int .i64 w_2.V_), (.int .i64 w_2.T_), (.str w_2.File_), (.int .i64 w_2.Line_)]) → (0 < h16.n) → Z f15 h16) (fun Z hX12 => ?_) ?_
   ·have hr11 := hb
    clear hb
    have hb := hj
    clear hj
    refine wq_def J_burinref07_show_2.eq_1 ?_
    refine Tw ?_
    refine Tw ?_
    refine bq_if hb rfl (fun c13 hb => ?_) (fun c13 hb => ?_)
    ·have hb := Option.some.inj hb
     subst hb
     have X := And.intro c13 X
     refine Tw ?_
     exact hX12 _ _ (decide (w_2.V_ < (0 : Int))) rfl Cw Cn
    ·have hb := Option.some.inj hb
     subst hb
     have X := And.intro c13 X
     refine Tw ?_
     exact hX12 _ _ false rfl Cw Cn
   ·intro f15 h16 v14 ej Y17 Y19
    subst ej
    try dsimp only at hb
    have X := And.intro Y17 X
    refine Tw ?_
    refine bq_if hb rfl (fun c25 hb => ?_) (fun c25 hb => ?_)
    ·have X := And.intro c25 X
     refine Tw ?_
     refine bnd1 hb (fun r26 h27 hb => ?_)
     refine pq_eq (G_burinref07_octal_ok h27) ?_
     refine Tw ?_
     refine vq_cat hb (fun t28 ht28 hb => ?_)
     refine Tw ?_
     refine vq_cat hb (fun t29 ht29 hb => ?_)
     have hq := Option.some.inj hb
     subst hq
     try dsimp only at hr8
     have hb := hr8
     have hb := Option.some.inj hb
     subst hb
     refine Tw ?_
     exact endI rfl
    ·have hb := Option.some.inj hb
     subst hb
     have X := And.intro c25 X
     refine Tw ?_
     exact hX9 _ _ rfl Cw Cn
  ·intro f31 h32 ej Y33 Y35
   subst ej
   try dsimp only at hb
   have X := And.intro Y33 X
   refine Tw ?_
   refine bnd1 hb (fun j50 hj hb => ?_)
   refine wq_joinF (fun Z => ∀ (f45 : Fr) (end_44 : Bytes), end_44 = j50 → (f45 1 = (.ptr 0 0) ∧ f45 3 = (.str end_44)) → Z f45) (fun Z hX42 => ?_) ?_
   ·have hr41 := hb
    clear hb
    have hb := hj
    clear hj
    refine wq_def J_burinref07_show_3.eq_1 ?_
    refine Tw ?_
    refine Tw ?_
    refine bq_if hb rfl (fun c43 hb => ?_) (fun c43 hb => ?_)
    ·have hb := Option.some.inj hb
     subst hb
     have X := And.intro c43 X
     refine Tw ?_
     exact hX42 _ ([117] : Bytes) rfl Cw
    ·have hb := Option.some.inj hb
     subst hb
     have X := And.intro c43 X
     refine Tw ?_
     exact hX42 _ ([] : Bytes) rfl Cw
   ·intro f45 end_44 ej Y47
    subst ej
    try dsimp only at hb
    have X := And.intro Y47 X
    refine Tw ?_
    refine bnd1 hb (fun j63 hj hb => ?_)
    refine wq_joinF (fun Z => ∀ (f58 : Fr) (end_57 : Bytes), end_57 = j63 → (f58 1 = (.ptr 0 0) ∧ f58 3 = (.str end_57)) → Z f58) (fun Z hX55 => ?_) ?_
    ·have hr54 := hb
     clear hb
     have hb := hj
     clear hj
     refine wq_def J_burinref07_show_4.eq_1 ?_
     refine Tw ?_
     refine Tw ?_
     refine bq_if hb rfl (fun c56 hb => ?_) (fun c56 hb => ?_)
     ·have hb := Option.some.inj hb
      subst hb
      have X := And.intro c56 X
      refine Tw ?_
      exact hX55 _ ([108] : Bytes) rfl Cw
     ·have hb := Option.some.inj hb
      subst hb
      have X := And.intro c56 X
      refine Tw ?_
      exact hX55 _ end_44 rfl Cw
    ·intro f58 end_57 ej Y60
     subst ej
     try dsimp only at hb
     have X := And.intro Y60 X
     refine Tw ?_
     refine bq_if hb rfl (fun c66 hb => ?_) (fun c66 hb => ?_)
     ·have X := And.intro c66 X
      refine Tw ?_
      refine bnd1 hb (fun r67 h68 hb => ?_)
      refine pq_eq (G_burinref07_digits_ok h68) ?_
      refine Tw ?_
      refine vq_cat hb (fun t69 ht69 hb => ?_)
      have hb := Option.some.inj hb
      subst hb
      refine Tw ?_
      exact endI rfl
     ·have X := And.intro c66 X
      refine Tw ?_
      refine bnd1 hb (fun r70 h71 hb => ?_)
      refine pq_eq (G_burinref07_digits_ok h71) ?_
      refine Tw ?_
      refine vq_cat hb (fun t72 ht72 hb => ?_)
      have hb := Option.some.inj hb
      subst hb
      refine Tw ?_
      exact endI rfl
 ·have X := And.intro c6 X
  refine Tw ?_
  refine bq_if hb rfl (fun c73 hb => ?_) (fun c73 hb => ?_)
  ·have X := And.intro c73 X
   refine Tw ?_
   refine vq_new rfl (fun o74 h75 n79 O76 F77 => ?_)
   have q78 := F77.n
   try simp only [HN] at q78
   have s80 : SlR 1 R8 o74 1 ([(34 : UInt8)] : List UInt8) [[(.int .u8 (34 : Int))]] := (slr_cons n79 rfl (slr_0 (R := R8)))
   have X := And.intro F77.box (And.intro F77.loop (And.intro F77.bty (And.intro O76 X)))
   refine Tw ?_
   refine bnd1 hb (fun q131 h132 hb => ?_)
   refine G_burinref07_show_L1_ok (v94 := w_2.Kind_) (v96 := w_2.V_) (v97 := w_2.T_) (v98 := w_2.File_) (v99 := w_2.Line_) (b93 := 0) _ _ _ h132 _ _ o74 1 [[(.int .u8 (34 : Int))]] Cw Cw Cn s80 ?_
   ·intro f125 h126 b_120 o121 e122 M123 ex Y127 Y129 s124
    subst ex
    have X := And.intro Y127 (And.intro s124.len X)
    refine Tw ?_
    refine vq_bsl rfl ?_
    refine Tw ?_
    refine vq_app s124 Cw (show SlR 1 R8 (.own h126.n false) 1 ([(34 : UInt8)] : List UInt8) [[(.int .u8 (34 : Int))]] from (slr_cons (by simp) rfl (slr_0 (R := R8)))) hb (fun t138 o139 M140 h141 ht138 hb s142 O143 F144 => ?_)
    have q145 := F144.n
    try simp only [HN] at q145
    have X := And.intro F144.box (And.intro F144.loop (And.intro F144.bty (And.intro O143 (And.intro s142.len X))))
    refine Tw ?_
    refine vq_b2s s142 ?_
    have hb := Option.some.inj hb
    subst hb
    refine Tw ?_
    exact endI rfl
  ·have hb := Option.some.inj hb
   subst hb
   have X := And.intro c73 X
   refine Tw ?_
   exact endI rfl
def G_burinref07_Show_L1 (l_9 : List T_api_Word) : List UInt8 × Int → Option ((List UInt8 × Int) ⊕ (Ex2 (Unit) (List UInt8))) := fun (b_14, i_19) =>
 if (decide (i_19 < ((List.length l_9 : Nat) : Int))) then
  idx l_9 i_19 >>= fun x32 =>
  G_burinref07_Right x32 >>= fun r34 =>
  (
   if (!r34) then
    some (Ex2.a (Sum.inr (Ex2.a ())))
   else
    if (decide ((0 : Int) < i_19)) then
     idx l_9 i_19 >>= fun x42 =>
     if (x42.Kind_ == (4 : Int)) then
      idx l_9 (IntKind.wrap .i64 (i_19 - (1 : Int))) >>= fun x45 =>
      if (x45.Kind_ == (4 : Int)) then
       some (Ex2.a (Sum.inr (Ex2.a ())))
      else
       some (Ex2.b ())
     else
      some (Ex2.b ())
    else
     some (Ex2.b ())
  ) >>= fun j54 => match j54 with
   | .a q => some q
   | .b () =>
    (
     if (decide ((0 : Int) < i_19)) then
      app 1 b_14 [(32 : UInt8)] >>= fun t63 =>
      some t63
     else
      some b_14
    ) >>= fun b_72 =>
    idx l_9 i_19 >>= fun x88 =>
    G_burinref07_show x88 >>= fun r90 =>
    app 1 b_72 r90 >>= fun t92 =>
    some (Sum.inl (t92, (IntKind.wrap .i64 (i_19 + (1 : Int)))))
 else
  some (Sum.inr (Ex2.b b_14))
theorem G_burinref07_Show_L1_ok {κ : Kt} {t : Blk κ} {l_9 : List T_api_Word} {o10 : Own} {e11 : Nat} {M12 : List (List PV)} (b_14 : List UInt8) (i_19 : Int) (x : Ex2 (Unit) (List UInt8)) (hx : loopO (G_burinref07_Show_L1 l_9) (b_14, i_19) = some x) (s13 : SlR 6 T_api_Word.R o10 e11 l_9 M12) : ∀ (f20 : Fr) (h21 : Heap) (o15 : Own) (e16 : Nat) (M17 : List (List PV)), (f20 0 = (.slice o10 e11 M12) ∧ f20 4 = (.slice o15 e16 M17) ∧ f20 5 = (.int .i64 i_19)) → (OwnOK h21 o15) → (True) → SlR 1 R8 o15 e16 b_14 M17 → (∀ (f101 : Fr) (h102 : Heap), Ex2.a () = x → (f101 2 = (.str ([] : Bytes)) ∧ f101 3 = (.int .i64 (2 : Int))) → (True) → κ.R f101 h102) → (∀ (f112 : Fr) (h113 : Heap) (b_107 : List UInt8) (o108 : Own) (e109 : Nat) (M110 : List (List PV)), Ex2.b b_107 = x → (f112 4 = (.slice o108 e109 M110) ∧ OwnOK h113 o108) → (True) → SlR 1 R8 o108 e109 b_107 M110 → κ.B 0 f112 h113) → Lq E (.loop L_burinref07_Show_1) κ t f20 h21 := by
 revert b_14 i_19 x
 refine loop2' ?_
 intro b_14 i_19 r hb x hn f20 h21 o15 e16 M17 Y22 Y23 Y24 s18 ex0 ex1
 dsimp only [G_burinref07_Show_L1] at hb
 refine loop_step L_burinref07_Show_1.eq_1 ?_
 have X := And.intro Y22 (And.intro Y23 (And.intro s13.len (s18.len)))
 refine Tw ?_
 refine Tw ?_
 refine bq_if hb rfl (fun c31 hb => ?_) (fun c31 hb => ?_)
 ·have X := And.intro c31 X
  refine Tw ?_
  refine vq_iaddr s13 hb (fun x32 cs33 hx32 hb hcs33 => ?_)
  cases (show cs33 = [(.int .i64 x32.Kind_), (.str x32.S_), (.int .i64 x32.V_), (.int .i64 x32.T_), (.str x32.File_), (.int .i64 x32.Line_)] from hcs33)
  refine Tw ?_
  refine bnd1 hb (fun r34 h35 hb => ?_)
  refine pq_eq (G_burinref07_Right_ok h35) ?_
  refine Tw ?_
  refine bnd1 hb (fun j54 hj hb => ?_)
  refine wq_joinF (fun Z => ∀ (f49 : Fr), Ex2.b () = j54 → (f49 0 = (.slice o10 e11 M12) ∧ f49 4 = (.slice o15 e16 M17) ∧ f49 5 = (.int .i64 i_19)) → Z f49) (fun Z hX38 => ?_) ?_
  ·have hr37 := hb
   clear hb
   have hb := hj
   clear hj
   refine wq_def J_burinref07_Show_1.eq_1 ?_
   refine Tw ?_
   refine Tw ?_
   refine bq_if hb rfl (fun c39 hb => ?_) (fun c39 hb => ?_)
   ·have hq := Option.some.inj hb
    subst hq
    try dsimp only at hr37
    have hb := hr37
    have hb := Option.some.inj hb
    subst hb
    have hn : _ = _ := hn
    subst hn
    have X := And.intro c39 X
    refine Tw ?_
    exact ex0 _ _ rfl Cw trivial
   ·have X := And.intro c39 X
    refine Tw ?_
    refine bq_if hb rfl (fun c41 hb => ?_) (fun c41 hb => ?_)
    ·have X := And.intro c41 X
     refine Tw ?_
     refine vq_iaddr s13 hb (fun x42 cs43 hx42 hb hcs43 => ?_)
     cases (show cs43 = [(.int .i64 x42.Kind_), (.str x42.S_), (.int .i64 x42.V_), (.int .i64 x42.T_), (.str x42.File_), (.int .i64 x42.Line_)] from hcs43)
     refine Tw ?_
     refine bq_if hb rfl (fun c44 hb => ?_) (fun c44 hb => ?_)
     ·have X := And.intro c44 X
      refine Tw ?_
      refine vq_iaddr s13 hb (fun x45 cs46 hx45 hb hcs46 => ?_)
      cases (show cs46 = [(.int .i64 x45.Kind_), (.str x45.S_), (.int .i64 x45.V_), (.int .i64 x45.T_), (.str x45.File_), (.int .i64 x45.Line_)] from hcs46)
      refine Tw ?_
      refine bq_if hb rfl (fun c47 hb => ?_) (fun c47 hb => ?_)
      ·have hq := Option.some.inj hb
       subst hq
       try dsimp only at hr37
       have hb := hr37
       have hb := Option.some.inj hb
       subst hb
       have hn : _ = _ := hn
       subst hn
       have X := And.intro c47 X
       refine Tw ?_
       exact ex0 _ _ rfl Cw trivial
      ·have hb := Option.some.inj hb
       subst hb
       have X := And.intro c47 X
       refine Tw ?_
       exact hX38 _ rfl Cw
     ·have hb := Option.some.inj hb
      subst hb
      have X := And.intro c44 X
      refine Tw ?_
      exact hX38 _ rfl Cw
    ·have hb := Option.some.inj hb
     subst hb
     have X := And.intro c41 X
     refine Tw ?_
     exact hX38 _ rfl Cw
  ·intro f49 ej Y51
   subst ej
   try dsimp only at hb
   have X := And.intro Y51 X
   refine Tw ?_
   refine bnd1 hb (fun j83 hj hb => ?_)
   refine wq_join (fun Z => ∀ (f77 : Fr) (h78 : Heap) (b_72 : List UInt8) (o73 : Own) (e74 : Nat) (M75 : List (List PV)), b_72 = j83 → (f77 0 = (.slice o10 e11 M12) ∧ f77 4 = (.slice o73 e74 M75) ∧ f77 5 = (.int .i64 i_19) ∧ OwnOK h78 o73) → (True) → SlR 1 R8 o73 e74 b_72 M75 → Z f77 h78) (fun Z hX60 => ?_) ?_
   ·have hr59 := hb
    clear hb
    have hb := hj
    clear hj
    refine wq_def J_burinref07_Show_2.eq_1 ?_
    refine Tw ?_
    refine Tw ?_
    refine bq_if hb rfl (fun c61 hb => ?_) (fun c61 hb => ?_)
    ·have X := And.intro c61 X
     refine Tw ?_
     refine vq_bsl rfl ?_
     refine Tw ?_
     refine vq_app s18 Cw (show SlR 1 R8 (.own h21.n false) 1 ([(32 : UInt8)] : List UInt8) [[(.int .u8 (32 : Int))]] from (slr_cons (by simp) rfl (slr_0 (R := R8)))) hb (fun t63 o64 M65 h66 ht63 hb s67 O68 F69 => ?_)
     have q70 := F69.n
     try simp only [HN] at q70
     have hb := Option.some.inj hb
     subst hb
     have X := And.intro F69.box (And.intro F69.loop (And.intro F69.bty (And.intro O68 (And.intro s67.len X))))
     refine Tw ?_
     exact hX60 _ _ t63 o64 1 M65 rfl Cw trivial s67
    ·have hb := Option.some.inj hb
     subst hb
     have X := And.intro c61 X
     refine Tw ?_
     exact hX60 _ _ b_14 o15 e16 M17 rfl Cw trivial s18
   ·intro f77 h78 b_72 o73 e74 M75 ej Y79 Y81 s76
    subst ej
    try dsimp only at hb
    have X := And.intro Y79 (And.intro s76.len X)
    refine Tw ?_
    refine vq_iaddr s13 hb (fun x88 cs89 hx88 hb hcs89 => ?_)
    cases (show cs89 = [(.int .i64 x88.Kind_), (.str x88.S_), (.int .i64 x88.V_), (.int .i64 x88.T_), (.str x88.File_), (.int .i64 x88.Line_)] from hcs89)
    refine Tw ?_
    refine bnd1 hb (fun r90 h91 hb => ?_)
    refine pq_eq (G_burinref07_show_ok h91) ?_
    refine Tw ?_
    refine vq_app8 s76 Cw hb (fun t92 o93 M94 h95 ht92 hb s96 O97 F98 => ?_)
    have q99 := F98.n
    try simp only [HN] at q99
    have hb := Option.some.inj hb
    subst hb
    have X := And.intro F98.box (And.intro F98.loop (And.intro F98.bty (And.intro O97 (And.intro s96.len X))))
    refine Tw ?_
    exact hn _ _ o93 1 M94 Cw Cw trivial s96 ex0 ex1
 ·have hb := Option.some.inj hb
  subst hb
  have hn : _ = _ := hn
  subst hn
  have X := And.intro c31 X
  refine Tw ?_
  exact ex1 _ _ b_14 o15 e16 M17 rfl Cw trivial s18
def G_burinref07_Show (l_2 : List T_api_Word) : Option (Bytes × Int) :=
 loopO (G_burinref07_Show_L1 l_2) (([] : List UInt8), (0 : Int)) >>= fun q118 => match q118 with
  | .a _ =>
   some (([] : Bytes), (2 : Int))
  | .b b_107 =>
   some (b_107, (0 : Int))
theorem G_burinref07_Show_ok {l_2 : List T_api_Word} {o3 : Own} {e4 : Nat} {M5 : List (List PV)} {r7 : Bytes} {r8 : Int} (hx : G_burinref07_Show l_2 = some (r7, r8)) (s6 : SlR 6 T_api_Word.R o3 e4 l_2 M5) : PureE E 34 [(.slice o3 e4 M5)] (fun v => v = (.tuple [(.str r7), (.int .i64 r8)])) := by
 refine pureE_ok fn_burinref07_Show rfl ?_
 have hb := hx
 dsimp only [G_burinref07_Show] at hb
 have X := s6.len
 refine Tw ?_
 refine bnd1 hb (fun q118 h119 hb => ?_)
 refine G_burinref07_Show_L1_ok (o10 := o3) (e11 := e4) (M12 := M5) _ _ _ h119 s6 _ _ .nil 0 [] Cw Cw trivial (slr_nil (R := R8)) ?_ ?_
 ·intro f101 h102 ex Y103 Y105
  subst ex
  try dsimp only at hb
  have hb := Option.some.inj hb
  obtain ⟨e0, e1⟩ := Prod.mk.inj hb
  subst e0
  subst e1
  have X := And.intro Y103 X
  refine Tw ?_
  exact endI rfl
 ·intro f112 h113 b_107 o108 e109 M110 ex Y114 Y116 s111
  subst ex
  try dsimp only at hb
  have X := And.intro Y114 (And.intro s111.len X)
  refine Tw ?_
  refine vq_b2s s111 ?_
  have hb := Option.some.inj hb
  obtain ⟨e0, e1⟩ := Prod.mk.inj hb
  subst e0
  subst e1
  refine Tw ?_
  exact endI rfl
def G_burinlaw07_LexShows_L1 (l_14 : List T_api_Word) : Int → Option ((Int) ⊕ (Ex2 (Unit) (Unit))) := fun i_20 =>
 if (decide (i_20 < ((List.length l_14 : Nat) : Int))) then
  idx l_14 i_20 >>= fun x32 =>
  G_lex_Right x32 >>= fun r34 =>
  idx l_14 i_20 >>= fun x36 =>
  G_burinref07_Right x36 >>= fun r38 =>
  if (!(r34 == r38)) then
   some (Sum.inr (Ex2.a ()))
  else
   some (Sum.inl (IntKind.wrap .i64 (i_20 + (1 : Int))))
 else
  some (Sum.inr (Ex2.b ()))
theorem G_burinlaw07_LexShows_L1_ok {κ : Kt} {t : Blk κ} {l_14 : List T_api_Word} {head_19 : Bool} {o15 : Own} {e16 : Nat} {M17 : List (List PV)} {h22 : Heap} (i_20 : Int) (x : Ex2 (Unit) (Unit)) (hx : loopO (G_burinlaw07_LexShows_L1 l_14) i_20 = some x) (hh : True) (ho : True) (s18 : SlR 6 T_api_Word.R o15 e16 l_14 M17) : ∀ (f21 : Fr), (f21 0 = (.slice o15 e16 M17) ∧ f21 3 = (.bool head_19) ∧ f21 4 = (.int .i64 i_20)) → (∀ (f41 : Fr), Ex2.a () = x → (f41 2 = (.bool false)) → κ.R f41 h22) → (∀ (f46 : Fr), Ex2.b () = x → (f46 0 = (.slice o15 e16 M17) ∧ f46 3 = (.bool head_19)) → κ.B 0 f46 h22) → Lq E (.loop L_burinlaw07_LexShows_1) κ t f21 h22 := by
 revert i_20 x
 refine loop1' ?_
 intro i_20 r hb x hn f21  Y23  ex0 ex1
 dsimp only [G_burinlaw07_LexShows_L1] at hb
 refine loop_step L_burinlaw07_LexShows_1.eq_1 ?_
 have X := And.intro Y23 (s18.len)
 refine Tw ?_
 refine Tw ?_
 refine bq_if hb rfl (fun c31 hb => ?_) (fun c31 hb => ?_)
 ·have X := And.intro c31 X
  refine Tw ?_
  refine vq_iaddr s18 hb (fun x32 cs33 hx32 hb hcs33 => ?_)
  cases (show cs33 = [(.int .i64 x32.Kind_), (.str x32.S_), (.int .i64 x32.V_), (.int .i64 x32.T_), (.str x32.File_), (.int .i64 x32.Line_)] from hcs33)
  refine Tw ?_
  refine bnd1 hb (fun r34 h35 hb => ?_)
  refine pq_eq (G_lex_Right_ok h35) ?_
  refine Tw ?_
  refine vq_iaddr s18 hb (fun x36 cs37 hx36 hb hcs37 => ?_)
  cases (show cs37 = [(.int .i64 x36.Kind_), (.str x36.S_), (.int .i64 x36.V_), (.int .i64 x36.T_), (.str x36.File_), (.int .i64 x36.Line_)] from hcs37)
  refine Tw ?_
  refine bnd1 hb (fun r38 h39 hb => ?_)
  refine pq_eq (G_burinref07_Right_ok h39) ?_
  refine Tw ?_
  refine bq_if hb rfl (fun c40 hb => ?_) (fun c40 hb => ?_)
  ·have hb := Option.some.inj hb
   subst hb
   have hn : _ = _ := hn
   subst hn
   have X := And.intro c40 X
   refine Tw ?_
   exact ex0 _ rfl Cw
  ·have hb := Option.some.inj hb
   subst hb
   have X := And.intro c40 X
   refine Tw ?_
   exact hn _  Cw ex0 ex1
 ·have hb := Option.some.inj hb
  subst hb
  have hn : _ = _ := hn
  subst hn
  have X := And.intro c31 X
  refine Tw ?_
  exact ex1 _ rfl Cw
def G_burinlaw07_LexShows (l_2 : List T_api_Word) : Option (Bool) :=
 G_burinlaw07_shown  >>= fun r8 =>
 subT l_2 (if (500 : Int) < ((List.length l_2 : Nat) : Int) then (500 : Int) else ((List.length l_2 : Nat) : Int)) >>= fun t10 =>
 loopO (G_burinlaw07_LexShows_L1 t10) (0 : Int) >>= fun q51 => match q51 with
  | .a _ =>
   some false
  | .b _ =>
   G_lex_Show t10 >>= fun (r56, r57) =>
   G_burinref07_Show t10 >>= fun (r59, r60) =>
   if r8 then
    if (r56 == r59) then
     some (r57 == r60)
    else
     some false
   else
    some false
theorem G_burinlaw07_LexShows_ok {l_2 : List T_api_Word} {o3 : Own} {e4 : Nat} {M5 : List (List PV)} {r7 : Bool} (hx : G_burinlaw07_LexShows l_2 = some r7) (s6 : SlR 6 T_api_Word.R o3 e4 l_2 M5) : PureE E 12 [(.slice o3 e4 M5)] (fun v => v = (.bool r7)) := by
 refine pureE_ok fn_burinlaw07_LexShows rfl ?_
 have hb := hx
 dsimp only [G_burinlaw07_LexShows] at hb
 have X := s6.len
 refine Tw ?_
 refine bnd1 hb (fun r8 h9 hb => ?_)
 refine pq_eq (G_burinlaw07_shown_ok h9) ?_
 refine Tw ?_
 refine vq_subT s6 hb (fun t10 o11 M12 ht10 hb s13 => ?_)
 have X := And.intro s13.len X
 refine Tw ?_
 refine bnd1 hb (fun q51 h52 hb => ?_)
 refine G_burinlaw07_LexShows_L1_ok (o15 := o11) (e16 := e4) (M17 := M12) (head_19 := r8) _ _ h52 trivial trivial s13 _ Cw ?_ ?_
 ·intro f41 ex Y43
  subst ex
  try dsimp only at hb
  have hb := Option.some.inj hb
  subst hb
  have X := And.intro Y43 X
  refine Tw ?_
  exact endI rfl
 ·intro f46 ex Y48
  subst ex
  try dsimp only at hb
  have X := And.intro Y48 X
  refine Tw ?_
  refine bnd2 hb (fun r56 r57 h58 hb => ?_)
  try dsimp only at hb
  refine pq_eq (G_lex_Show_ok h58 s13.st) ?_
  refine Tw ?_
  refine bnd2 hb (fun r59 r60 h61 hb => ?_)
  try dsimp only at hb
  refine pq_eq (G_burinref07_Show_ok h61 s13.st) ?_
  refine Tw ?_
  refine bq_if hb rfl (fun c62 hb => ?_) (fun c62 hb => ?_)
  ·have X := And.intro c62 X
   refine Tw ?_
   refine bq_if hb rfl (fun c63 hb => ?_) (fun c63 hb => ?_)
   ·have hb := Option.some.inj hb
    subst hb
    have X := And.intro c63 X
    refine Tw ?_
    exact endI rfl
   ·have hb := Option.some.inj hb
    subst hb
    have X := And.intro c63 X
    refine Tw ?_
    exact endI rfl
  ·have hb := Option.some.inj hb
   subst hb
   have X := And.intro c62 X
   refine Tw ?_
   exact endI rfl
end Go.Proofs.YtmngkcpobmhnoaaGreatDoor.Sim
