/- Printed functions, continued. -/
import Derived.Test.YtmngkcpobmhnoaaGreatDoorKG4
set_option linter.all false
set_option maxHeartbeats 4000000
set_option maxRecDepth 20000
namespace Go.Proofs.YtmngkcpobmhnoaaGreatDoor.Sim
theorem G_cond_eval_atom_b_ok {F : Rec_cond_eval_choice} (hF : Rec_cond_eval_choice.OK F) {h1 : Heap} {b4 : Nat} {p_2 : T_cond_eval} {counts_9 : Bool} {o5 : Own} {e6 : Nat} {M7 : List (List PV)} {r10 : T_cond_value} {r11 : T_cond_eval} (hx : G_cond_eval_atom_b F p_2 counts_9 = some (r10, r11)) (z16 : h1.box b4 = some [(.slice o5 e6 M7), (.bool p_2.bad_)]) (w17 : b4 < h1.n) (s8 : SlR 6 T_api_Tok.R o5 e6 p_2.l_ M7) : CallC E (.func 125 [] []) [(.ptr b4 0), (.bool counts_9)] h1 (fun v h18 => ∃ o12 e13 M14, v = (.agg [(.int .u64 r10.v_), (.bool r10.u_)]) ∧ h18.box b4 = some [(.slice o12 e13 M14), (.bool r11.bad_)] ∧ FrB [b4] h1 h18 ∧ SlR 6 T_api_Tok.R o12 e13 r11.l_ M14) := by
 refine callE_ok fn_cond_eval_atom rfl ?_
 have hb := hx
 dsimp only [G_cond_eval_atom_b] at hb
 have X := And.intro z16 (s8.len)
 refine Tw ?_
 refine bnd2 hb (fun r21 p22 h27 hb => ?_)
 try dsimp only at hb
 refine fq_mono1 (G_cond_eval_take_ok h27 Cw Cn s8) (fun o23 e24 M25 h28 S180 => ?_)
 have z31 := S180.1
 have F29 := S180.2.1
 have s26 := S180.2.2
 have q30 := F29.n
 try simp only [HN] at q30
 have F32 : FrB [b4] h1 h28 := FrB.call Cf F29 (by intro j hj; simp only [List.mem_cons, List.not_mem_nil, or_false] at hj; first | (subst hj; left; simp; done) | (right; omega))
 have X := And.intro z31 (And.intro F29.box1 (And.intro F29.loop (And.intro F29.bty (And.intro F32 (And.intro s26.len X)))))
 refine Tw ?_
 refine bq_if hb rfl (fun c34 hb => ?_) (fun c34 hb => ?_)
 ·have X := And.intro c34 X
  refine Tw ?_
  refine bnd2 hb (fun r35 p36 h41 hb => ?_)
  try dsimp only at hb
  refine fq_mono1 (hF.cond_eval_choice h41 Cw Cn s26) (fun o37 e38 M39 h42 S79 => ?_)
  have z45 := S79.1
  have F43 := S79.2.1
  have s40 := S79.2.2
  have q44 := F43.n
  try simp only [HN] at q44
  have F46 : FrB [b4] h1 h42 := FrB.call Cf F43 (by intro j hj; simp only [List.mem_cons, List.not_mem_nil, or_false] at hj; first | (subst hj; left; simp; done) | (right; omega))
  have X := And.intro z45 (And.intro F43.box1 (And.intro F43.loop (And.intro F43.bty (And.intro F46 (And.intro s40.len X)))))
  refine Tw ?_
  refine bnd2 hb (fun r51 p52 h57 hb => ?_)
  try dsimp only at hb
  refine fq_mono1 (G_cond_eval_take_ok h57 Cw Cn s40) (fun o53 e54 M55 h58 S78 => ?_)
  have z61 := S78.1
  have F59 := S78.2.1
  have s56 := S78.2.2
  have q60 := F59.n
  try simp only [HN] at q60
  have F62 : FrB [b4] h1 h58 := FrB.call Cf F59 (by intro j hj; simp only [List.mem_cons, List.not_mem_nil, or_false] at hj; first | (subst hj; left; simp; done) | (right; omega))
  have X := And.intro z61 (And.intro F59.box1 (And.intro F59.loop (And.intro F59.bty (And.intro F62 (And.intro s56.len X)))))
  refine Tw ?_
  refine bnd1 hb (fun p64 h69 hb => ?_)
  refine fq_mono1 (G_cond_eval_fails_ok h69 Cw Cn s56) (fun o65 e66 M67 h70 S77 => ?_)
  have z73 := S77.1
  have F71 := S77.2.1
  have s68 := S77.2.2
  have q72 := F71.n
  try simp only [HN] at q72
  have F74 : FrB [b4] h1 h70 := FrB.call Cf F71 (by intro j hj; simp only [List.mem_cons, List.not_mem_nil, or_false] at hj; first | (subst hj; left; simp; done) | (right; omega))
  have hb := Option.some.inj hb
  obtain ⟨e0, e1⟩ := Prod.mk.inj hb
  subst e0
  subst e1
  have X := And.intro z73 (And.intro F71.box1 (And.intro F71.loop (And.intro F71.bty (And.intro F74 (And.intro s68.len X)))))
  refine Tw ?_
  exact endHI ⟨o65, e66, M67, rfl, Cw, Cf, s68⟩
 ·have X := And.intro c34 X
  refine Tw ?_
  refine bnd1 hb (fun j96 hj hb => ?_)
  refine wq_joinF (fun Z => ∀ (f91 : Fr), Ex2.b () = j96 → (f91 0 = (.ptr b4 0) ∧ f91 4 = (.ptr h1.n 0)) → Z f91) (fun Z hX82 => ?_) ?_
  ·have hr81 := hb
   clear hb
   have hb := hj
   clear hj
   refine wq_def J_cond_eval_atom_1.eq_1 ?_
   refine Tw ?_
   refine Tw ?_
   refine bq_if hb rfl (fun c83 hb => ?_) (fun c83 hb => ?_)
   ·have hq := Option.some.inj hb
    subst hq
    try dsimp only at hr81
    have hb := hr81
    have hb := Option.some.inj hb
    obtain ⟨e0, e1⟩ := Prod.mk.inj hb
    subst e0
    subst e1
    have X := And.intro c83 X
    refine Tw ?_
    exact endHI ⟨o23, e24, M25, rfl, Cw, Cf, s26⟩
   ·have X := And.intro c83 X
    refine Tw ?_
    refine bq_if hb rfl (fun c87 hb => ?_) (fun c87 hb => ?_)
    ·have hq := Option.some.inj hb
     subst hq
     try dsimp only at hr81
     have hb := hr81
     have hb := Option.some.inj hb
     obtain ⟨e0, e1⟩ := Prod.mk.inj hb
     subst e0
     subst e1
     have X := And.intro c87 X
     refine Tw ?_
     exact endHI ⟨o23, e24, M25, rfl, Cw, Cf, s26⟩
    ·have hb := Option.some.inj hb
     subst hb
     have X := And.intro c87 X
     refine Tw ?_
     exact hX82 _ rfl Cf
  ·intro f91 ej Y93
   subst ej
   try dsimp only at hb
   have X := And.intro Y93 X
   refine Tw ?_
   refine vq_iaddr s26 hb (fun x99 cs100 hx99 hb hcs100 => ?_)
   cases (show cs100 = [(.int .i64 x99.Kind_), (.str x99.S_), (.str x99.File_), (.int .i64 x99.Line_), (.bool x99.Space_), (.bool x99.First_)] from hcs100)
   refine Tw ?_
   refine vq_subF s26 hb (fun t104 o105 M106 ht104 hb s107 => ?_)
   have X := And.intro s107.len X
   refine Tw ?_
   refine bq_if hb rfl (fun c109 hb => ?_) (fun c109 hb => ?_)
   ·have hb := Option.some.inj hb
    obtain ⟨e0, e1⟩ := Prod.mk.inj hb
    subst e0
    subst e1
    have X := And.intro c109 X
    refine Tw ?_
    exact endHI ⟨o105, e24, M106, rfl, Cw, Cf, s107⟩
   ·have X := And.intro c109 X
    refine Tw ?_
    refine bq_if hb rfl (fun c111 hb => ?_) (fun c111 hb => ?_)
    ·have X := And.intro c111 X
     refine Tw ?_
     refine bnd3 hb (fun r112 r113 r114 h115 hb => ?_)
     try dsimp only at hb
     refine pq_eq (G_cond_Number_ok h115) ?_
     refine Tw ?_
     refine bq_if hb rfl (fun c116 hb => ?_) (fun c116 hb => ?_)
     ·have X := And.intro c116 X
      refine Tw ?_
      refine bnd1 hb (fun p117 h122 hb => ?_)
      refine fq_mono1 (G_cond_eval_fails_ok h122 Cw Cn s107) (fun o118 e119 M120 h123 S130 => ?_)
      have z126 := S130.1
      have F124 := S130.2.1
      have s121 := S130.2.2
      have q125 := F124.n
      try simp only [HN] at q125
      have F127 : FrB [b4] h1 h123 := FrB.call Cf F124 (by intro j hj; simp only [List.mem_cons, List.not_mem_nil, or_false] at hj; first | (subst hj; left; simp; done) | (right; omega))
      have hb := Option.some.inj hb
      obtain ⟨e0, e1⟩ := Prod.mk.inj hb
      subst e0
      subst e1
      have X := And.intro z126 (And.intro F124.box1 (And.intro F124.loop (And.intro F124.bty (And.intro F127 (And.intro s121.len X)))))
      refine Tw ?_
      exact endHI ⟨o118, e119, M120, rfl, Cw, Cf, s121⟩
     ·have X := And.intro c116 X
      refine Tw ?_
      refine bq_if hb rfl (fun c131 hb => ?_) (fun c131 hb => ?_)
      ·have X := And.intro c131 X
       refine Tw ?_
       refine bnd1 hb (fun p132 h137 hb => ?_)
       refine fq_mono1 (G_cond_eval_fails_ok h137 Cw Cn s107) (fun o133 e134 M135 h138 S145 => ?_)
       have z141 := S145.1
       have F139 := S145.2.1
       have s136 := S145.2.2
       have q140 := F139.n
       try simp only [HN] at q140
       have F142 : FrB [b4] h1 h138 := FrB.call Cf F139 (by intro j hj; simp only [List.mem_cons, List.not_mem_nil, or_false] at hj; first | (subst hj; left; simp; done) | (right; omega))
       have hb := Option.some.inj hb
       obtain ⟨e0, e1⟩ := Prod.mk.inj hb
       subst e0
       subst e1
       have X := And.intro z141 (And.intro F139.box1 (And.intro F139.loop (And.intro F139.bty (And.intro F142 (And.intro s136.len X)))))
       refine Tw ?_
       exact endHI ⟨o133, e134, M135, rfl, Cw, Cf, s136⟩
      ·have X := And.intro c131 X
       refine Tw ?_
       refine bnd1 hb (fun p146 h151 hb => ?_)
       refine fq_mono1 (G_cond_eval_fails_ok h151 Cw Cn s107) (fun o147 e148 M149 h152 S159 => ?_)
       have z155 := S159.1
       have F153 := S159.2.1
       have s150 := S159.2.2
       have q154 := F153.n
       try simp only [HN] at q154
       have F156 : FrB [b4] h1 h152 := FrB.call Cf F153 (by intro j hj; simp only [List.mem_cons, List.not_mem_nil, or_false] at hj; first | (subst hj; left; simp; done) | (right; omega))
       have hb := Option.some.inj hb
       obtain ⟨e0, e1⟩ := Prod.mk.inj hb
       subst e0
       subst e1
       have X := And.intro z155 (And.intro F153.box1 (And.intro F153.loop (And.intro F153.bty (And.intro F156 (And.intro s150.len X)))))
       refine Tw ?_
       exact endHI ⟨o147, e148, M149, rfl, Cw, Cf, s150⟩
    ·have X := And.intro c111 X
     refine Tw ?_
     refine bq_if hb rfl (fun c160 hb => ?_) (fun c160 hb => ?_)
     ·have X := And.intro c160 X
      refine Tw ?_
      refine bnd2 hb (fun r161 r162 h163 hb => ?_)
      try dsimp only at hb
      refine pq_eq (G_cond_Char_ok h163) ?_
      refine Tw ?_
      refine bnd1 hb (fun p164 h169 hb => ?_)
      refine fq_mono1 (G_cond_eval_fails_ok h169 Cw Cn s107) (fun o165 e166 M167 h170 S177 => ?_)
      have z173 := S177.1
      have F171 := S177.2.1
      have s168 := S177.2.2
      have q172 := F171.n
      try simp only [HN] at q172
      have F174 : FrB [b4] h1 h170 := FrB.call Cf F171 (by intro j hj; simp only [List.mem_cons, List.not_mem_nil, or_false] at hj; first | (subst hj; left; simp; done) | (right; omega))
      have hb := Option.some.inj hb
      obtain ⟨e0, e1⟩ := Prod.mk.inj hb
      subst e0
      subst e1
      have X := And.intro z173 (And.intro F171.box1 (And.intro F171.loop (And.intro F171.bty (And.intro F174 (And.intro s168.len X)))))
      refine Tw ?_
      exact endHI ⟨o165, e166, M167, rfl, Cw, Cf, s168⟩
     ·have hb := Option.some.inj hb
      obtain ⟨e0, e1⟩ := Prod.mk.inj hb
      subst e0
      subst e1
      have X := And.intro c160 X
      refine Tw ?_
      exact endHI ⟨o105, e24, M106, rfl, Cw, Cf, s107⟩
def Rec_cond_eval_choice.lvl : Nat → Rec_cond_eval_choice
 | 0 => ⟨fun _ _ => none, fun _ _ _ => none, fun _ _ => none, fun _ _ => none⟩
 | j + 1 => ⟨G_cond_eval_choice_b (Rec_cond_eval_choice.lvl j), G_cond_eval_chain_b (Rec_cond_eval_choice.lvl j), G_cond_eval_unary_b (Rec_cond_eval_choice.lvl j), G_cond_eval_atom_b (Rec_cond_eval_choice.lvl j)⟩
theorem Rec_cond_eval_choice.lvl_ok : ∀ j, (Rec_cond_eval_choice.lvl j).OK
 | 0 => ⟨(fun hx _ _ _ => none_elim hx), (fun hx _ _ _ => none_elim hx), (fun hx _ _ _ => none_elim hx), (fun hx _ _ _ => none_elim hx)⟩
 | j + 1 => ⟨fun hx a0 a1 a2 => G_cond_eval_choice_b_ok (Rec_cond_eval_choice.lvl_ok j) hx a0 a1 a2, fun hx a0 a1 a2 => G_cond_eval_chain_b_ok (Rec_cond_eval_choice.lvl_ok j) hx a0 a1 a2, fun hx a0 a1 a2 => G_cond_eval_unary_b_ok (Rec_cond_eval_choice.lvl_ok j) hx a0 a1 a2, fun hx a0 a1 a2 => G_cond_eval_atom_b_ok (Rec_cond_eval_choice.lvl_ok j) hx a0 a1 a2⟩
def G_cond_eval_choice (k : Nat) : T_cond_eval → Bool → Option (T_cond_value × T_cond_eval) := (Rec_cond_eval_choice.lvl k).cond_eval_choice
theorem G_cond_eval_choice_ok {k : Nat} {h1 : Heap} {b4 : Nat} {p_2 : T_cond_eval} {counts_9 : Bool} {o5 : Own} {e6 : Nat} {M7 : List (List PV)} {r10 : T_cond_value} {r11 : T_cond_eval} (hx : G_cond_eval_choice k p_2 counts_9 = some (r10, r11)) (z16 : h1.box b4 = some [(.slice o5 e6 M7), (.bool p_2.bad_)]) (w17 : b4 < h1.n) (s8 : SlR 6 T_api_Tok.R o5 e6 p_2.l_ M7) : CallC E (.func 38 [] []) [(.ptr b4 0), (.bool counts_9)] h1 (fun v h18 => ∃ o12 e13 M14, v = (.agg [(.int .u64 r10.v_), (.bool r10.u_)]) ∧ h18.box b4 = some [(.slice o12 e13 M14), (.bool r11.bad_)] ∧ FrB [b4] h1 h18 ∧ SlR 6 T_api_Tok.R o12 e13 r11.l_ M14) := (Rec_cond_eval_choice.lvl_ok k).cond_eval_choice hx z16 w17 s8
def G_cond_Eval (k : Nat) (l_2 : List T_api_Tok) : Option (Int × Bool × Int) :=
 G_cond_eval_choice k (T_cond_eval.mk l_2 false) true >>= fun (r12, p13) =>
 if p13.bad_ then
  some ((0 : Int), false, (50 : Int))
 else
  if (decide ((0 : Int) < ((List.length p13.l_ : Nat) : Int))) then
   some ((0 : Int), false, (50 : Int))
  else
   some (r12.v_, r12.u_, (0 : Int))
theorem G_cond_Eval_ok {k : Nat} {l_2 : List T_api_Tok} {o3 : Own} {e4 : Nat} {M5 : List (List PV)} {r7 : Int} {r8 : Bool} {r9 : Int} (hx : G_cond_Eval k l_2 = some (r7, r8, r9)) (s6 : SlR 6 T_api_Tok.R o3 e4 l_2 M5) : PureE E 22 [(.slice o3 e4 M5)] (fun v => v = (.tuple [(.int .u64 r7), (.bool r8), (.int .i64 r9)])) := by
 refine pureE_ok fn_cond_Eval rfl ?_
 have hb := hx
 dsimp only [G_cond_Eval] at hb
 have X := s6.len
 refine Tw ?_
 refine bnd2 hb (fun r12 p13 h18 hb => ?_)
 try dsimp only at hb
 refine fq_mono1 (G_cond_eval_choice_ok h18 Cw Cn s6) (fun o14 e15 M16 h19 S29 => ?_)
 have z22 := S29.1
 have F20 := S29.2.1
 have s17 := S29.2.2
 have q21 := F20.n
 try simp only [HN] at q21
 have X := And.intro z22 (And.intro F20.box1 (And.intro F20.loop (And.intro F20.bty (And.intro s17.len X))))
 refine Tw ?_
 refine bq_if hb rfl (fun c27 hb => ?_) (fun c27 hb => ?_)
 ·have hb := Option.some.inj hb
  obtain ⟨e0, hb⟩ := Prod.mk.inj hb
  obtain ⟨e1, e2⟩ := Prod.mk.inj hb
  subst e0
  subst e1
  subst e2
  have X := And.intro c27 X
  refine Tw ?_
  exact endI rfl
 ·have X := And.intro c27 X
  refine Tw ?_
  refine bq_if hb rfl (fun c28 hb => ?_) (fun c28 hb => ?_)
  ·have hb := Option.some.inj hb
   obtain ⟨e0, hb⟩ := Prod.mk.inj hb
   obtain ⟨e1, e2⟩ := Prod.mk.inj hb
   subst e0
   subst e1
   subst e2
   have X := And.intro c28 X
   refine Tw ?_
   exact endI rfl
  ·have hb := Option.some.inj hb
   obtain ⟨e0, hb⟩ := Prod.mk.inj hb
   obtain ⟨e1, e2⟩ := Prod.mk.inj hb
   subst e0
   subst e1
   subst e2
   have X := And.intro c28 X
   refine Tw ?_
   exact endI rfl
def G_burinlaw05_CondSmall (k : Nat) (a_2 : Int) (b_3 : Int) : Option (Bool) :=
 G_burinlaw05_shown  >>= fun r5 =>
 G_burinlaw05_digits (band .i64 a_2 (1048575 : Int)) >>= fun r7 =>
 G_burinlaw05_digits (band .i64 b_3 (1048575 : Int)) >>= fun r9 =>
 cat r7 ([43] : Bytes) >>= fun t11 =>
 cat t11 r9 >>= fun t12 =>
 G_burinlaw05_lexed t12 >>= fun r13 =>
 G_cond_Eval k r13 >>= fun (r19, r20, r21) =>
 cat r7 ([60] : Bytes) >>= fun t23 =>
 cat t23 r9 >>= fun t24 =>
 G_burinlaw05_lexed t24 >>= fun r25 =>
 G_cond_Eval k r25 >>= fun (r31, r32, r33) =>
 cat r7 ([42] : Bytes) >>= fun t35 =>
 cat t35 r9 >>= fun t36 =>
 cat t36 ([45] : Bytes) >>= fun t37 =>
 cat t37 r9 >>= fun t38 =>
 cat t38 ([42] : Bytes) >>= fun t39 =>
 cat t39 r7 >>= fun t40 =>
 cat t40 ([43, 32] : Bytes) >>= fun t41 =>
 cat t41 r9 >>= fun t42 =>
 cat t42 ([37, 40] : Bytes) >>= fun t43 =>
 cat t43 r7 >>= fun t44 =>
 cat t44 ([43, 49, 41] : Bytes) >>= fun t45 =>
 G_burinlaw05_lexed t45 >>= fun r46 =>
 G_cond_Eval k r46 >>= fun (r52, r53, r54) =>
 (
  if (decide ((band .i64 a_2 (1048575 : Int)) < (band .i64 b_3 (1048575 : Int)))) then
   some (1 : Int)
  else
   some (0 : Int)
 ) >>= fun want_60 =>
 if r5 then
  if (r21 == (0 : Int)) then
   if (r33 == (0 : Int)) then
    if (r54 == (0 : Int)) then
     if (r19 == (IntKind.wrap .u64 (IntKind.wrap .i64 ((band .i64 a_2 (1048575 : Int)) + (band .i64 b_3 (1048575 : Int)))))) then
      if (r31 == want_60) then
       rem (band .i64 b_3 (1048575 : Int)) (IntKind.wrap .i64 ((band .i64 a_2 (1048575 : Int)) + (1 : Int))) >>= fun i83 =>
       some (r52 == (IntKind.wrap .u64 i83))
      else
       some false
     else
      some false
    else
     some false
   else
    some false
  else
   some false
 else
  some false
theorem G_burinlaw05_CondSmall_ok {k : Nat} {a_2 : Int} {b_3 : Int} {r4 : Bool} (hx : G_burinlaw05_CondSmall k a_2 b_3 = some r4) : PureE E 8 [(.int .i64 a_2), (.int .i64 b_3)] (fun v => v = (.bool r4)) := by
 refine pureE_ok fn_burinlaw05_CondSmall rfl ?_
 have hb := hx
 dsimp only [G_burinlaw05_CondSmall] at hb
 have X := True.intro
 refine Tw ?_
 refine bnd1 hb (fun r5 h6 hb => ?_)
 refine pq_eq (G_burinlaw05_shown_ok h6) ?_
 refine Tw ?_
 refine bnd1 hb (fun r7 h8 hb => ?_)
 refine pq_eq (G_burinlaw05_digits_ok h8) ?_
 refine Tw ?_
 refine bnd1 hb (fun r9 h10 hb => ?_)
 refine pq_eq (G_burinlaw05_digits_ok h10) ?_
 refine Tw ?_
 refine vq_cat hb (fun t11 ht11 hb => ?_)
 refine Tw ?_
 refine vq_cat hb (fun t12 ht12 hb => ?_)
 refine Tw ?_
 refine bnd1 hb (fun r13 h18 hb => ?_)
 refine pq_in1 (G_burinlaw05_lexed_ok h18) (fun o14 e15 M16 s17 => ?_)
 have X := And.intro s17.len X
 refine Tw ?_
 refine bnd3 hb (fun r19 r20 r21 h22 hb => ?_)
 try dsimp only at hb
 refine pq_eq (G_cond_Eval_ok h22 s17.st) ?_
 refine Tw ?_
 refine vq_cat hb (fun t23 ht23 hb => ?_)
 refine Tw ?_
 refine vq_cat hb (fun t24 ht24 hb => ?_)
 refine Tw ?_
 refine bnd1 hb (fun r25 h30 hb => ?_)
 refine pq_in1 (G_burinlaw05_lexed_ok h30) (fun o26 e27 M28 s29 => ?_)
 have X := And.intro s29.len X
 refine Tw ?_
 refine bnd3 hb (fun r31 r32 r33 h34 hb => ?_)
 try dsimp only at hb
 refine pq_eq (G_cond_Eval_ok h34 s29.st) ?_
 refine Tw ?_
 refine vq_cat hb (fun t35 ht35 hb => ?_)
 refine Tw ?_
 refine vq_cat hb (fun t36 ht36 hb => ?_)
 refine Tw ?_
 refine vq_cat hb (fun t37 ht37 hb => ?_)
 refine Tw ?_
 refine vq_cat hb (fun t38 ht38 hb => ?_)
 refine Tw ?_
 refine vq_cat hb (fun t39 ht39 hb => ?_)
 refine Tw ?_
 refine vq_cat hb (fun t40 ht40 hb => ?_)
 refine Tw ?_
 refine vq_cat hb (fun t41 ht41 hb => ?_)
 refine Tw ?_
 refine vq_cat hb (fun t42 ht42 hb => ?_)
 refine Tw ?_
 refine vq_cat hb (fun t43 ht43 hb => ?_)
 refine Tw ?_
 refine vq_cat hb (fun t44 ht44 hb => ?_)
 refine Tw ?_
 refine vq_cat hb (fun t45 ht45 hb => ?_)
 refine Tw ?_
 refine bnd1 hb (fun r46 h51 hb => ?_)
 refine pq_in1 (G_burinlaw05_lexed_ok h51) (fun o47 e48 M49 s50 => ?_)
 have X := And.intro s50.len X
 refine Tw ?_
 refine bnd3 hb (fun r52 r53 r54 h55 hb => ?_)
 try dsimp only at hb
 refine pq_eq (G_cond_Eval_ok h55 s50.st) ?_
 refine Tw ?_
 refine bnd1 hb (fun j66 hj hb => ?_)
 refine wq_joinF (fun Z => ∀ (f61 : Fr) (want_60 : Int), want_60 = j66 → (f61 0 = (.int .i64 (band .i64 a_2 (1048575 : Int))) ∧ f61 1 = (.int .i64 (band .i64 b_3 (1048575 : Int))) ∧ f61 5 = (.bool r5) ∧ f61 8 = (.int .u64 r19) ∧ f61 10 = (.int .i64 r21) ∧ f61 11 = (.int .u64 r31) ∧ f61 13 = (.int .i64 r33) ∧ f61 14 = (.int .u64 r52) ∧ f61 16 = (.int .i64 r54) ∧ f61 17 = (.int .u64 want_60)) → Z f61) (fun Z hX58 => ?_) ?_
 ·have hr57 := hb
  clear hb
  have hb := hj
  clear hj
  refine wq_def J_burinlaw05_CondSmall_1.eq_1 ?_
  refine Tw ?_
  refine Tw ?_
  refine bq_if hb rfl (fun c59 hb => ?_) (fun c59 hb => ?_)
  ·have hb := Option.some.inj hb
   subst hb
   have X := And.intro c59 X
   refine Tw ?_
   exact hX58 _ (1 : Int) rfl Cw
  ·have hb := Option.some.inj hb
   subst hb
   have X := And.intro c59 X
   refine Tw ?_
   exact hX58 _ (0 : Int) rfl Cw
 ·intro f61 want_60 ej Y63
  subst ej
  try dsimp only at hb
  have X := And.intro Y63 X
  refine Tw ?_
  refine bq_if hb rfl (fun c77 hb => ?_) (fun c77 hb => ?_)
  ·have X := And.intro c77 X
   refine Tw ?_
   refine bq_if hb rfl (fun c78 hb => ?_) (fun c78 hb => ?_)
   ·have X := And.intro c78 X
    refine Tw ?_
    refine bq_if hb rfl (fun c79 hb => ?_) (fun c79 hb => ?_)
    ·have X := And.intro c79 X
     refine Tw ?_
     refine bq_if hb rfl (fun c80 hb => ?_) (fun c80 hb => ?_)
     ·have X := And.intro c80 X
      refine Tw ?_
      refine bq_if hb rfl (fun c81 hb => ?_) (fun c81 hb => ?_)
      ·have X := And.intro c81 X
       refine Tw ?_
       refine bq_if hb rfl (fun c82 hb => ?_) (fun c82 hb => ?_)
       ·have X := And.intro c82 X
        refine Tw ?_
        refine vq_rem hb (fun i83 hi83 hb => ?_)
        have hb := Option.some.inj hb
        subst hb
        refine Tw ?_
        exact endI rfl
       ·have hb := Option.some.inj hb
        subst hb
        have X := And.intro c82 X
        refine Tw ?_
        exact endI rfl
      ·have hb := Option.some.inj hb
       subst hb
       have X := And.intro c81 X
       refine Tw ?_
       exact endI rfl
     ·have hb := Option.some.inj hb
      subst hb
      have X := And.intro c80 X
      refine Tw ?_
      exact endI rfl
    ·have hb := Option.some.inj hb
     subst hb
     have X := And.intro c79 X
     refine Tw ?_
     exact endI rfl
   ·have hb := Option.some.inj hb
    subst hb
    have X := And.intro c78 X
    refine Tw ?_
    exact endI rfl
  ·have hb := Option.some.inj hb
   subst hb
   have X := And.intro c77 X
   refine Tw ?_
   exact endI rfl
end Go.Proofs.YtmngkcpobmhnoaaGreatDoor.Sim
