/- Printed functions, continued. -/
import Derived.Test.YtmngkcpobmhnoaaGreatDoorKG4
set_option linter.all false
set_option maxHeartbeats 4000000
set_option maxRecDepth 20000
namespace Go.Proofs.YtmngkcpobmhnoaaGreatDoor.Sim
theorem G_cond_eval_atom_b_ok {F : Rec_cond_eval_choice} (hF : Rec_cond_eval_choice.OK F) {h1 : Heap} {b4 : Nat} {p_2 : T_cond_eval} {counts_9 : Bool} {o5 : Own} {e6 : Nat} {M7 : List (List PV)} {r10 : T_cond_value} {r11 : T_cond_eval} (hx : G_cond_eval_atom_b F p_2 counts_9 = some (r10, r11)) (z16 : h1.box b4 = some [(.slice o5 e6 M7), (.bool p_2.bad_)]) (w17 : b4 < h1.n) (s8 : SlR 6 T_api_Tok.R o5 e6 p_2.l_ M7) : CallC E (.func 125 [] []) [(.ptr b4 0), (.bool counts_9)] h1 (fun v h18 => ∃ o12 e13 M14, v = (.agg [(.int .u64 r10.v_), (.bool r10.u_)]) ∧ h18.box b4 = some [(.slice o12 e13 M14), (.bool r11.bad_)] ∧ FrB [b4] h1 h18 ∧ SlR 6 T_api_Tok.R o12 e13 r11.l_ M14) := by
 refine callE_ok fn_cond_eval_atom rfl ?_
 have hb := hx
 dsimp only [G_cond_eval_atom_b] at hb
 have X := And.intro z16 (s8.len)
 refine Tw ?_
 refine bnd2 hb (fun r21 p22 h27 hb => ?_)
 try dsimp only at hb
 refine fq_mono1 (G_cond_eval_take_ok h27 Cw Cn s8) (fun o23 e24 M25 h28 S180 => ?_)
 have z31 := S180.1
 have F29 := S180.2.1
 have s26 := S180.2.2
 have q30 := F29.n
 try simp only [HN] at q30
 have F32 : FrB [b4] h1 h28 := FrB.call Cf F29 (by intro j hj; simp only [List.mem_cons, List.not_mem_nil, or_false] at hj; first | (subst hj; left; simp; done) | (right; omega))
 have X := And.intro z31 (And.intro F29.box1 (And.intro F29.loop (And.intro F29.bty (And.intro F32 (And.intro s26.len X)))))
 refine Tw ?_
 refine bq_if hb rfl (fun c34 hb => ?_) (fun c34 hb => ?_)
 ·have X := And.intro c34 X
  refine Tw ?_
  refine bnd2 hb (fun r35 p36 h41 hb => ?_)
  try dsimp only at hb
  refine fq_mono1 (hF.cond_eval_choice h41 Cw Cn s26) (fun o37 e38 M39 h42 S79 => ?_)
  have z45 := S79.1
  have F43 := S79.2.1
  have s40 := S79.2.2
  have q44 := F43.n
  try simp only [HN] at q44
  have F46 : FrB [b4] h1 h42 := FrB.call Cf F43 (by intro j hj; simp only [List.mem_cons, List.not_mem_nil, or_false] at hj; first | (subst hj; left; simp; done) | (right; omega))
  have X := And.intro z45 (And.intro F43.box1 (And.intro F43.loop (And.intro F43.bty (And.intro F46 (And.intro s40.len X)))))
  refine Tw ?_
  refine bnd2 hb (fun r51 p52 h57 hb => ?_)
  try dsimp only at hb
  refine fq_mono1 (G_cond_eval_take_ok h57 Cw Cn s40) (fun o53 e54 M55 h58 S78 => ?_)
  have z61 := S78.1
  have F59 := S78.2.1
  have s56 := S78.2.2
  have q60 := F59.n
  try simp only [HN] at q60
  have F62 : FrB [b4] h1 h58 := FrB.call Cf F59 (by intro j hj; simp only [List.mem_cons, List.not_mem_nil, or_false] at hj; first | (subst hj; left; simp; done) | (right; omega))
  have X := And.intro z61 (And.intro F59.box1 (And.intro F59.loop (And.intro F59.bty (And.intro F62 (And.intro s56.len X)))))
  refine Tw ?_
  refine bnd1 hb (fun p64 h69 hb => ?_)
  refine fq_mono1 (G_cond_eval_fails_ok h69 Cw Cn s56) (fun o65 e66 M67 h70 S77 => ?_)
  have z73 := S77.1
  have F71 := S77.2.1
  have s68 := S77.2.2
  have q72 := F71.n
  try simp only [HN] at q72
  have F74 : FrB [b4] h1 h70 := FrB.call Cf F71 (by intro j hj; simp only [List.mem_cons, List.not_mem_nil, or_false] at hj; first | (subst hj; left; simp; done) | (right; omega))
  have hb := Option.some.inj hb
  obtain ⟨e0, e1⟩ := Prod.mk.inj hb
  subst e0
  subst e1
  have X := And.intro z73 (And.intro F71.box1 (And.intro F71.loop (And.intro F71.bty (And.intro F74 (And.intro s68.len X)))))
  refine Tw ?_
  exact endHI ⟨o65, e66, M67, rfl, Cw, Cf, s68⟩
 ·have X := And.intro c34 X
  refine Tw ?_
  refine bnd1 hb (fun j96 hj hb => ?_)
  refine wq_joinF (fun Z => ∀ (f91 : Fr), Ex2.b () = j96 → (f91 0 = (.ptr b4 0) ∧ f91 4 = (.ptr h1.n 0)) → Z f91) (fun Z hX82 => ?_) ?_
  ·have hr81 := hb
   clear hb
   have hb := hj
   clear hj
   refine wq_def J_cond_eval_atom_1.eq_1 ?_
   refine Tw ?_
   refine Tw ?_
   refine bq_if hb rfl (fun c83 hb => ?_) (fun c83 hb => ?_)
   ·have hq := Option.some.inj hb
    subst hq
    try dsimp only at hr81
    have hb := hr81
    have hb := Option.some.inj hb
    obtain ⟨e0, e1⟩ := Prod.mk.inj hb
    subst e0
    subst e1
    have X := And.intro c83 X
    refine Tw ?_
    exact endHI ⟨o23, e24, M25, rfl, Cw, Cf, s26⟩
   ·have X := And.intro c83 X
    refine Tw ?_
    refine bq_if hb rfl (fun c87 hb => ?_) (fun c87 hb => ?_)
    ·have hq := Option.some.inj hb
     subst hq
     try dsimp only at hr81
     have hb := hr81
     have hb := Option.some.inj hb
     obtain ⟨e0, e1⟩ := Prod.mk.inj hb
     subst e0
     subst e1
     have X := And.intro c87 X
     refine Tw ?_
     exact endHI ⟨o23, e24, M25, rfl, Cw, Cf, s26⟩
    ·have hb := Option.some.inj hb
     subst hb
     have X := And.intro c87 X
     refine Tw ?_
     exact hX82 _ rfl Cf
  ·intro f91 ej Y93
   subst ej
   try dsimp only at hb
   have X := And.intro Y93 X
   refine Tw ?_
   refine vq_iaddr s26 hb (fun x99 cs100 hx99 hb hcs100 => ?_)
   cases (show cs100 = [(.int .i64 x99.Kind_), (.str x99.S_), (.str x99.File_), (.int .i64 x99.Line_), (.bool x99.Space_), (.bool x99.First_)] from hcs100)
   refine Tw ?_
   refine vq_subF s26 hb (fun t104 o105 M106 ht104 hb s107 => ?_)
   have X := And.intro s107.len X
   refine Tw ?_
   refine bq_if hb rfl (fun c109 hb => ?_) (fun c109 hb => ?_)
   ·have hb := Option.some.inj hb
    obtain ⟨e0, e1⟩ := Prod.mk.inj hb
    subst e0
    subst e1
    have X := And.intro c109 X
    refine Tw ?_
    exact endHI ⟨o105, e24, M106, rfl, Cw, Cf, s107⟩
   ·have X := And.intro c109 X
    refine Tw ?_
    refine bq_if hb rfl (fun c111 hb => ?_) (fun c111 hb => ?_)
    ·have X := And.intro c111 X
     refine Tw ?_
     refine bnd3 hb (fun r112 r113 r114 h115 hb => ?_)
     try dsimp only at hb
     refine pq_eq (G_cond_Number_ok h115) ?_
     refine Tw ?_
     refine bq_if hb rfl (fun c116 hb => ?_) (fun c116 hb => ?_)
     ·have X := And.intro c116 X
      refine Tw ?_
      refine bnd1 hb (fun p117 h122 hb => ?_)
      refine fq_mono1 (G_cond_eval_fails_ok h122 Cw Cn s107) (fun o118 e119 M120 h123 S130 => ?_)
      have z126 := S130.1
      have F124 := S130.2.1
      have s121 := S130.2.2
      have q125 := F124.n
      try simp only [HN] at q125
      have F127 : FrB [b4] h1 h123 := FrB.call Cf F124 (by intro j hj; simp only [List.mem_cons, List.not_mem_nil, or_false] at hj; first | (subst hj; left; simp; done) | (right; omega))
      have hb := Option.some.inj hb
      obtain ⟨e0, e1⟩ := Prod.mk.inj hb
      subst e0
      subst e1
      have X := And.intro z126 (And.intro F124.box1 (And.intro F124.loop (And.intro F124.bty (And.intro F127 (And.intro s121.len X)))))
      refine Tw ?_
      exact endHI ⟨o118, e119, M120, rfl, Cw, Cf, s121⟩
     ·have X := And.intro c116 X
      refine Tw ?_
      refine bq_if hb rfl (fun c131 hb => ?_) (fun c131 hb => ?_)
      ·have X := And.intro c131 X
       refine Tw ?_
       refine bnd1 hb (fun p132 h137 hb => ?_)
       refine fq_mono1 (G_cond_eval_fails_ok h137 Cw Cn s107) (fun o133 e134 M135 h138 S145 => ?_)
       have z141 := S145.1
       have F139 := S145.2.1
       have s136 := S145.2.2
       have q140 := F139.n
       try simp only [HN] at q140
       have F142 : FrB [b4] h1 h138 := FrB.call Cf F139 (by intro j hj; simp only [List.mem_cons, List.not_mem_nil, or_false] at hj; first | (subst hj; left; simp; done) | (right; omega))
       have hb := Option.some.inj hb
       obtain ⟨e0, e1⟩ := Prod.mk.inj hb
       subst e0
       subst e1
       have X := And.intro z141 (And.intro F139.box1 (And.intro F139.loop (And.intro F139.bty (And.intro F142 (And.intro s136.len X)))))
       refine Tw ?_
       exact endHI ⟨o133, e134, M135, rfl, Cw, Cf, s136⟩
      ·have X := And.intro c131 X
       refine Tw ?_
       refine bnd1 hb (fun p146 h151 hb => ?_)
       refine fq_mono1 (G_cond_eval_fails_ok h151 Cw Cn s107) (fun o147 e148 M149 h152 S159 => ?_)
       have z155 := S159.1
       have F153 := S159.2.1
       have s150 := S159.2.2
       have q154 := F153.n
       try simp only [HN] at q154
       have F156 : FrB [b4] h1 h152 := FrB.call Cf F153 (by intro j hj; simp only [List.mem_cons, List.not_mem_nil, or_false] at hj; first | (subst hj; left; simp; done) | (right; omega))
       have hb := Option.some.inj hb
       obtain ⟨e0, e1⟩ := Prod.mk.inj hb
       subst e0
       subst e1
       have X := And.intro z155 (And.intro F153.box1 (And.intro F153.loop (And.intro F153.bty (And.intro F156 (And.intro s150.len X)))))
       refine Tw ?_
       exact endHI ⟨o147, e148, M149, rfl, Cw, Cf, s150⟩
    ·have X := And.intro c111 X
     refine Tw ?_
     refine bq_if hb rfl (fun c160 hb => ?_) (fun c160 hb => ?_)
     ·have X := And.intro c160 X
      refine Tw ?_
      refine bnd2 hb (fun r161 r162 h163 hb => ?_)
      try dsimp only at hb
      refine pq_eq (G_cond_Char_ok h163) ?_
      refine Tw ?_
      refine bnd1 hb (fun p164 h169 hb => ?_)
      refine fq_mono1 (G_cond_eval_fails_ok h169 Cw Cn s107) (fun o165 e166 M167 h170 S177 => ?_)
      have z173 := S177.1
      have F171 := S177.2.1
      have s168 := S177.2.2
      have q172 := F171.n
      try simp only [HN] at q172
      have F174 : FrB [b4] h1 h170 := FrB.call Cf F171 (by intro j hj; simp only [List.mem_cons, List.not_mem_nil, or_false] at hj; first | (subst hj; left; simp; done) | (right; omega))
      have hb := Option.some.inj hb
      obtain ⟨e0, e1⟩ := Prod.mk.inj hb
      subst e0
      subst e1
      have X := And.intro z173 (And.intro F171.box1 (And.intro F171.loop (And.intro F171.bty (And.intro F174 (And.intro s168.len X)))))
      refine Tw ?_
      exact endHI ⟨o165, e166, M167, rfl, Cw, Cf, s168⟩
     ·have hb := Option.some.inj hb
      obtain ⟨e0, e1⟩ := Prod.mk.inj hb
      subst e0
      subst e1
      have X := And.intro c160 X
      refine Tw ?_
      exact endHI ⟨o105, e24, M106, rfl, Cw, Cf, s107⟩
def Rec_cond_eval_choice.lvl : Nat → Rec_cond_eval_choice
 | 0 => ⟨fun _ _ => none, fun _ _ _ => none, fun _ _ => none, fun _ _ => none⟩
 | j + 1 => ⟨G_cond_eval_choice_b (Rec_cond_eval_choice.lvl j), G_cond_eval_chain_b (Rec_cond_eval_choice.lvl j), G_cond_eval_unary_b (Rec_cond_eval_choice.lvl j), G_cond_eval_atom_b (Rec_cond_eval_choice.lvl j)⟩
theorem Rec_cond_eval_choice.lvl_ok : ∀ j, (Rec_cond_eval_choice.lvl j).OK
 | 0 => ⟨(fun hx _ _ _ => none_elim hx), (fun hx _ _ _ => none_elim hx), (fun hx _ _ _ => none_elim hx), (fun hx _ _ _ => none_elim hx)⟩
 | j + 1 => ⟨fun hx a0 a1 a2 => G_cond_eval_choice_b_ok (Rec_cond_eval_choice.lvl_ok j) hx a0 a1 a2, fun hx a0 a1 a2 => G_cond_eval_chain_b_ok (Rec_cond_eval_choice.lvl_ok j) hx a0 a1 a2, fun hx a0 a1 a2 => G_cond_eval_unary_b_ok (Rec_cond_eval_choice.lvl_ok j) hx a0 a1 a2, fun hx a0 a1 a2 => G_cond_eval_atom_b_ok (Rec_cond_eval_choice.lvl_ok j) hx a0 a1 a2⟩
def G_cond_eval_choice (k : Nat) : T_cond_eval → Bool → Option (T_cond_value × T_cond_eval) := (Rec_cond_eval_choice.lvl k).cond_eval_choice
theorem G_cond_eval_choice_ok {k : Nat} {h1 : Heap} {b4 : Nat} {p_2 : T_cond_eval} {counts_9 : Bool} {o5 : Own} {e6 : Nat} {M7 : List (List PV)} {r10 : T_cond_value} {r11 : T_cond_eval} (hx : G_cond_eval_choice k p_2 counts_9 = some (r10, r11)) (z16 : h1.box b4 = some [(.slice o5 e6 M7), (.bool p_2.bad_)]) (w17 : b4 < h1.n) (s8 : SlR 6 T_api_Tok.R o5 e6 p_2.l_ M7) : CallC E (.func 38 [] []) [(.ptr b4 0), (.bool counts_9)] h1 (fun v h18 => ∃ o12 e13 M14, v = (.agg [(.int .u64 r10.v_), (.bool r10.u_)]) ∧ h18.box b4 = some [(.slice o12 e13 M14), (.bool r11.bad_)] ∧ FrB [b4] h1 h18 ∧ SlR 6 T_api_Tok.R o12 e13 r11.l_ M14) := (Rec_cond_eval_choice.lvl_ok k).cond_eval_choice hx z16 w17 s8
def G_cond_Eval (k : Nat) (l_2 : List T_api_Tok) : Option (Int × Bool × Int) :=
 G_cond_eval_choice k (T_cond_eval.mk l_2 false) true >>= fun (r12, p13) =>
 if p13.bad_ then
  some ((0 : Int), false, (50 : Int))
 else
  if (decide ((0 : Int) < ((List.length p13.l_ : Nat) : Int))) then
   some ((0 : Int), false, (50 : Int))
  else
   some (r12.v_, r12.u_, (0 : Int))
theorem G_cond_Eval_ok {k : Nat} {l_2 : List T_api_Tok} {o3 : Own} {e4 : Nat} {M5 : List (List PV)} {r7 : Int} {r8 : Bool} {r9 : Int} (hx : G_cond_Eval k l_2 = some (r7, r8, r9)) (s6 : SlR 6 T_api_Tok.R o3 e4 l_2 M5) : PureE E 22 [(.slice o3 e4 M5)] (fun v => v = (.tuple [(.int .u64 r7), (.bool r8), (.int .i64 r9)])) := by
 refine pureE_ok fn_cond_Eval rfl ?_
 have hb := hx
 dsimp only [G_cond_Eval] at hb
 have X := s6.len
 refine Tw ?_
 refine bnd2 hb (fun r12 p13 h18 hb => ?_)
 try dsimp only at hb
 refine fq_mono1 (G_cond_eval_choice_ok h18 Cw Cn s6) (fun o14 e15 M16 h19 S29 => ?_)
 have z22 := S29.1
 have F20 := S29.2.1
 have s17 := S29.2.2
 have q21 := F20.n
 try simp only [HN] at q21
 have X := And.intro z22 (And.intro F20.box1 (And.intro F20.loop (And.intro F20.bty (And.intro s17.len X))))
 refine Tw ?_
 refine bq_if hb rfl (fun c27 hb => ?_) (fun c27 hb => ?_)
 ·have hb := Option.some.inj hb
  obtain ⟨e0, hb⟩ := Prod.mk.inj hb
  obtain ⟨e1, e2⟩ := Prod.mk.inj hb
  subst e0
  subst e1
  subst e2
  have X := And.intro c27 X
  refine Tw ?_
  exact endI rfl
 ·have X := And.intro c27 X
  refine Tw ?_
  refine bq_if hb rfl (fun c28 hb => ?_) (fun c28 hb => ?_)
  ·have hb := Option.some.inj hb
   obtain ⟨e0, hb⟩ := Prod.mk.inj hb
   obtain ⟨e1, e2⟩ := Prod.mk.inj hb
   subst e0
   subst e1
   subst e2
   have X := And.intro c28 X
   refine Tw ?_
   exact endI rfl
  ·have hb := Option.some.inj hb
   obtain ⟨e0, hb⟩ := Prod.mk.inj hb
   obtain ⟨e1, e2⟩ := Prod.mk.inj hb
   subst e0
   subst e1
   subst e2
   have X := And.intro c28 X
   refine Tw ?_
   exact endI rfl
def G_burinlaw05_said_L1 (words_16 : Bytes) (a_17 : List T_api_Tok) (b_22 : List T_api_Tok) : List T_api_Tok × Int → Option ((List T_api_Tok × Int) ⊕ (List T_api_Tok)) := fun (l_27, i_32) =>
 if (decide (i_32 < ((List.length words_16 : Nat) : Int))) then
  idx words_16 i_32 >>= fun x47 =>
  if ((x47.toNat : Int) == (65 : Int)) then
   G_burinlaw05_sign ([40] : Bytes) >>= fun r49 =>
   app 56 l_27 [r49] >>= fun t52 =>
   app 56 t52 a_17 >>= fun t61 =>
   G_burinlaw05_sign ([41] : Bytes) >>= fun r70 =>
   app 56 t61 [r70] >>= fun t73 =>
   some (Sum.inl (t73, (IntKind.wrap .i64 (i_32 + (1 : Int)))))
  else
   if ((x47.toNat : Int) == (66 : Int)) then
    G_burinlaw05_sign ([40] : Bytes) >>= fun r83 =>
    app 56 l_27 [r83] >>= fun t86 =>
    app 56 t86 b_22 >>= fun t95 =>
    G_burinlaw05_sign ([41] : Bytes) >>= fun r104 =>
    app 56 t95 [r104] >>= fun t107 =>
    some (Sum.inl (t107, (IntKind.wrap .i64 (i_32 + (1 : Int)))))
   else
    (
     if ((x47.toNat : Int) == (38 : Int)) then
      some true
     else
      some ((x47.toNat : Int) == (124 : Int))
    ) >>= fun v120 =>
    if v120 then
     subB words_16 i_32 (IntKind.wrap .i64 (i_32 + (1 : Int))) >>= fun t135 =>
     subB words_16 i_32 (IntKind.wrap .i64 (i_32 + (1 : Int))) >>= fun t136 =>
     cat t135 t136 >>= fun t137 =>
     G_burinlaw05_sign t137 >>= fun r138 =>
     app 56 l_27 [r138] >>= fun t141 =>
     some (Sum.inl (t141, (IntKind.wrap .i64 (i_32 + (1 : Int)))))
    else
     if ((x47.toNat : Int) == (61 : Int)) then
      G_burinlaw05_sign ([61, 61] : Bytes) >>= fun r151 =>
      app 56 l_27 [r151] >>= fun t154 =>
      some (Sum.inl (t154, (IntKind.wrap .i64 (i_32 + (1 : Int)))))
     else
      if ((x47.toNat : Int) == (35 : Int)) then
       G_burinlaw05_sign ([33, 61] : Bytes) >>= fun r164 =>
       app 56 l_27 [r164] >>= fun t167 =>
       some (Sum.inl (t167, (IntKind.wrap .i64 (i_32 + (1 : Int)))))
      else
       subB words_16 i_32 (IntKind.wrap .i64 (i_32 + (1 : Int))) >>= fun t176 =>
       G_burinlaw05_sign t176 >>= fun r177 =>
       app 56 l_27 [r177] >>= fun t180 =>
       some (Sum.inl (t180, (IntKind.wrap .i64 (i_32 + (1 : Int)))))
 else
  some (Sum.inr l_27)
theorem G_burinlaw05_said_L1_ok {κ : Kt} {t : Blk κ} {words_16 : Bytes} {a_17 : List T_api_Tok} {b_22 : List T_api_Tok} {o18 : Own} {e19 : Nat} {M20 : List (List PV)} {o23 : Own} {e24 : Nat} {M25 : List (List PV)} (l_27 : List T_api_Tok) (i_32 : Int) (x : List T_api_Tok) (hx : loopO (G_burinlaw05_said_L1 words_16 a_17 b_22) (l_27, i_32) = some x) (s21 : SlR 6 T_api_Tok.R o18 e19 a_17 M20) (s26 : SlR 6 T_api_Tok.R o23 e24 b_22 M25) : ∀ (f33 : Fr) (h34 : Heap) (o28 : Own) (e29 : Nat) (M30 : List (List PV)), (f33 0 = (.str words_16) ∧ f33 1 = (.slice o18 e19 M20) ∧ f33 2 = (.slice o23 e24 M25) ∧ f33 9 = (.slice o28 e29 M30) ∧ f33 10 = (.int .i64 i_32)) → (OwnOK h34 o28) → (True) → SlR 6 T_api_Tok.R o28 e29 l_27 M30 → (∀ (f194 : Fr) (h195 : Heap) (l_189 : List T_api_Tok) (o190 : Own) (e191 : Nat) (M192 : List (List PV)), l_189 = x → (f194 9 = (.slice o190 e191 M192) ∧ OwnOK h195 o190) → (True) → SlR 6 T_api_Tok.R o190 e191 l_189 M192 → κ.B 0 f194 h195) → Lq E (.loop L_burinlaw05_said_1) κ t f33 h34 := by
 revert l_27 i_32 x
 refine loop2' ?_
 intro l_27 i_32 r hb x hn f33 h34 o28 e29 M30 Y35 Y36 Y37 s31 ex0
 dsimp only [G_burinlaw05_said_L1] at hb
 refine loop_step L_burinlaw05_said_1.eq_1 ?_
 have X := And.intro Y35 (And.intro Y36 (And.intro s21.len (And.intro s26.len (s31.len))))
 refine Tw ?_
 refine Tw ?_
 refine bq_if hb rfl (fun c46 hb => ?_) (fun c46 hb => ?_)
 ·have X := And.intro c46 X
  refine Tw ?_
  refine vq_idxS hb (fun x47 hx47 hb => ?_)
  refine Tw ?_
  refine bq_if hb rfl (fun c48 hb => ?_) (fun c48 hb => ?_)
  ·have X := And.intro c48 X
   refine Tw ?_
   refine bnd1 hb (fun r49 h50 hb => ?_)
   refine pq_eq (G_burinlaw05_sign_ok h50) ?_
   refine Tw ?_
   refine vq_bsl rfl ?_
   refine Tw ?_
   refine vq_app s31 Cw (show SlR 6 T_api_Tok.R (.own h34.n) 6 ([r49] : List T_api_Tok) [[(.int .i64 r49.Kind_), (.str r49.S_), (.str r49.File_), (.int .i64 r49.Line_), (.bool r49.Space_), (.bool r49.First_)]] from (slr_cons (by simp) rfl (slr_0 (R := T_api_Tok.R)))) hb (fun t52 o53 M54 h55 ht52 hb s56 O57 F58 => ?_)
   have q59 := F58.n
   try simp only [HN] at q59
   have X := And.intro F58.box (And.intro F58.loop (And.intro F58.bty (And.intro O57 (And.intro s56.len X))))
   refine Tw ?_
   refine vq_app s56 Cw s21 hb (fun t61 o62 M63 h64 ht61 hb s65 O66 F67 => ?_)
   have q68 := F67.n
   try simp only [HN] at q68
   have X := And.intro F67.box (And.intro F67.loop (And.intro F67.bty (And.intro O66 (And.intro s65.len X))))
   refine Tw ?_
   refine bnd1 hb (fun r70 h71 hb => ?_)
   refine pq_eq (G_burinlaw05_sign_ok h71) ?_
   refine Tw ?_
   refine vq_bsl rfl ?_
   refine Tw ?_
   refine vq_app s65 Cw (show SlR 6 T_api_Tok.R (.own h64.n) 6 ([r70] : List T_api_Tok) [[(.int .i64 r70.Kind_), (.str r70.S_), (.str r70.File_), (.int .i64 r70.Line_), (.bool r70.Space_), (.bool r70.First_)]] from (slr_cons (by simp) rfl (slr_0 (R := T_api_Tok.R)))) hb (fun t73 o74 M75 h76 ht73 hb s77 O78 F79 => ?_)
   have q80 := F79.n
   try simp only [HN] at q80
   have hb := Option.some.inj hb
   subst hb
   have X := And.intro F79.box (And.intro F79.loop (And.intro F79.bty (And.intro O78 (And.intro s77.len X))))
   refine Tw ?_
   exact hn _ _ o74 6 M75 Cw Cw trivial s77 ex0
  ·have X := And.intro c48 X
   refine Tw ?_
   refine bq_if hb rfl (fun c82 hb => ?_) (fun c82 hb => ?_)
   ·have X := And.intro c82 X
    refine Tw ?_
    refine bnd1 hb (fun r83 h84 hb => ?_)
    refine pq_eq (G_burinlaw05_sign_ok h84) ?_
    refine Tw ?_
    refine vq_bsl rfl ?_
    refine Tw ?_
    refine vq_app s31 Cw (show SlR 6 T_api_Tok.R (.own h34.n) 6 ([r83] : List T_api_Tok) [[(.int .i64 r83.Kind_), (.str r83.S_), (.str r83.File_), (.int .i64 r83.Line_), (.bool r83.Space_), (.bool r83.First_)]] from (slr_cons (by simp) rfl (slr_0 (R := T_api_Tok.R)))) hb (fun t86 o87 M88 h89 ht86 hb s90 O91 F92 => ?_)
    have q93 := F92.n
    try simp only [HN] at q93
    have X := And.intro F92.box (And.intro F92.loop (And.intro F92.bty (And.intro O91 (And.intro s90.len X))))
    refine Tw ?_
    refine vq_app s90 Cw s26 hb (fun t95 o96 M97 h98 ht95 hb s99 O100 F101 => ?_)
    have q102 := F101.n
    try simp only [HN] at q102
    have X := And.intro F101.box (And.intro F101.loop (And.intro F101.bty (And.intro O100 (And.intro s99.len X))))
    refine Tw ?_
    refine bnd1 hb (fun r104 h105 hb => ?_)
    refine pq_eq (G_burinlaw05_sign_ok h105) ?_
    refine Tw ?_
    refine vq_bsl rfl ?_
    refine Tw ?_
    refine vq_app s99 Cw (show SlR 6 T_api_Tok.R (.own h98.n) 6 ([r104] : List T_api_Tok) [[(.int .i64 r104.Kind_), (.str r104.S_), (.str r104.File_), (.int .i64 r104.Line_), (.bool r104.Space_), (.bool r104.First_)]] from (slr_cons (by simp) rfl (slr_0 (R := T_api_Tok.R)))) hb (fun t107 o108 M109 h110 ht107 hb s111 O112 F113 => ?_)
    have q114 := F113.n
    try simp only [HN] at q114
    have hb := Option.some.inj hb
    subst hb
    have X := And.intro F113.box (And.intro F113.loop (And.intro F113.bty (And.intro O112 (And.intro s111.len X))))
    refine Tw ?_
    exact hn _ _ o108 6 M109 Cw Cw trivial s111 ex0
   ·have X := And.intro c82 X
    refine Tw ?_
    refine bnd1 hb (fun j126 hj hb => ?_)
    refine wq_joinF (fun Z => ∀ (f121 : Fr) (v120 : Bool), v120 = j126 → (f121 0 = (.str words_16) ∧ f121 1 = (.slice o18 e19 M20) ∧ f121 2 = (.slice o23 e24 M25) ∧ f121 9 = (.slice o28 e29 M30) ∧ f121 10 = (.int .i64 i_32) ∧ f121 19 = (.int .u8 (x47.toNat : Int)) ∧ f121 51 = (.bool v120)) → Z f121) (fun Z hX118 => ?_) ?_
    ·have hr117 := hb
     clear hb
     have hb := hj
     clear hj
     refine wq_def J_burinlaw05_said_1.eq_1 ?_
     refine Tw ?_
     refine Tw ?_
     refine bq_if hb rfl (fun c119 hb => ?_) (fun c119 hb => ?_)
     ·have hb := Option.some.inj hb
      subst hb
      have X := And.intro c119 X
      refine Tw ?_
      exact hX118 _ true rfl Cw
     ·have hb := Option.some.inj hb
      subst hb
      have X := And.intro c119 X
      refine Tw ?_
      exact hX118 _ ((x47.toNat : Int) == (124 : Int)) rfl Cw
    ·intro f121 v120 ej Y123
     subst ej
     try dsimp only at hb
     have X := And.intro Y123 X
     refine Tw ?_
     refine bq_if hb rfl (fun c134 hb => ?_) (fun c134 hb => ?_)
     ·have X := And.intro c134 X
      refine Tw ?_
      refine vq_subBs hb (fun t135 ht135 hb => ?_)
      refine Tw ?_
      refine vq_subBs hb (fun t136 ht136 hb => ?_)
      refine Tw ?_
      refine vq_cat hb (fun t137 ht137 hb => ?_)
      refine Tw ?_
      refine bnd1 hb (fun r138 h139 hb => ?_)
      refine pq_eq (G_burinlaw05_sign_ok h139) ?_
      refine Tw ?_
      refine vq_bsl rfl ?_
      refine Tw ?_
      refine vq_app s31 Cw (show SlR 6 T_api_Tok.R (.own h34.n) 6 ([r138] : List T_api_Tok) [[(.int .i64 r138.Kind_), (.str r138.S_), (.str r138.File_), (.int .i64 r138.Line_), (.bool r138.Space_), (.bool r138.First_)]] from (slr_cons (by simp) rfl (slr_0 (R := T_api_Tok.R)))) hb (fun t141 o142 M143 h144 ht141 hb s145 O146 F147 => ?_)
      have q148 := F147.n
      try simp only [HN] at q148
      have hb := Option.some.inj hb
      subst hb
      have X := And.intro F147.box (And.intro F147.loop (And.intro F147.bty (And.intro O146 (And.intro s145.len X))))
      refine Tw ?_
      exact hn _ _ o142 6 M143 Cw Cw trivial s145 ex0
     ·have X := And.intro c134 X
      refine Tw ?_
      refine bq_if hb rfl (fun c150 hb => ?_) (fun c150 hb => ?_)
      ·have X := And.intro c150 X
       refine Tw ?_
       refine bnd1 hb (fun r151 h152 hb => ?_)
       refine pq_eq (G_burinlaw05_sign_ok h152) ?_
       refine Tw ?_
       refine vq_bsl rfl ?_
       refine Tw ?_
       refine vq_app s31 Cw (show SlR 6 T_api_Tok.R (.own h34.n) 6 ([r151] : List T_api_Tok) [[(.int .i64 r151.Kind_), (.str r151.S_), (.str r151.File_), (.int .i64 r151.Line_), (.bool r151.Space_), (.bool r151.First_)]] from (slr_cons (by simp) rfl (slr_0 (R := T_api_Tok.R)))) hb (fun t154 o155 M156 h157 ht154 hb s158 O159 F160 => ?_)
       have q161 := F160.n
       try simp only [HN] at q161
       have hb := Option.some.inj hb
       subst hb
       have X := And.intro F160.box (And.intro F160.loop (And.intro F160.bty (And.intro O159 (And.intro s158.len X))))
       refine Tw ?_
       exact hn _ _ o155 6 M156 Cw Cw trivial s158 ex0
      ·have X := And.intro c150 X
       refine Tw ?_
       refine bq_if hb rfl (fun c163 hb => ?_) (fun c163 hb => ?_)
       ·have X := And.intro c163 X
        refine Tw ?_
        refine bnd1 hb (fun r164 h165 hb => ?_)
        refine pq_eq (G_burinlaw05_sign_ok h165) ?_
        refine Tw ?_
        refine vq_bsl rfl ?_
        refine Tw ?_
        refine vq_app s31 Cw (show SlR 6 T_api_Tok.R (.own h34.n) 6 ([r164] : List T_api_Tok) [[(.int .i64 r164.Kind_), (.str r164.S_), (.str r164.File_), (.int .i64 r164.Line_), (.bool r164.Space_), (.bool r164.First_)]] from (slr_cons (by simp) rfl (slr_0 (R := T_api_Tok.R)))) hb (fun t167 o168 M169 h170 ht167 hb s171 O172 F173 => ?_)
        have q174 := F173.n
        try simp only [HN] at q174
        have hb := Option.some.inj hb
        subst hb
        have X := And.intro F173.box (And.intro F173.loop (And.intro F173.bty (And.intro O172 (And.intro s171.len X))))
        refine Tw ?_
        exact hn _ _ o168 6 M169 Cw Cw trivial s171 ex0
       ·have X := And.intro c163 X
        refine Tw ?_
        refine vq_subBs hb (fun t176 ht176 hb => ?_)
        refine Tw ?_
        refine bnd1 hb (fun r177 h178 hb => ?_)
        refine pq_eq (G_burinlaw05_sign_ok h178) ?_
        refine Tw ?_
        refine vq_bsl rfl ?_
        refine Tw ?_
        refine vq_app s31 Cw (show SlR 6 T_api_Tok.R (.own h34.n) 6 ([r177] : List T_api_Tok) [[(.int .i64 r177.Kind_), (.str r177.S_), (.str r177.File_), (.int .i64 r177.Line_), (.bool r177.Space_), (.bool r177.First_)]] from (slr_cons (by simp) rfl (slr_0 (R := T_api_Tok.R)))) hb (fun t180 o181 M182 h183 ht180 hb s184 O185 F186 => ?_)
        have q187 := F186.n
        try simp only [HN] at q187
        have hb := Option.some.inj hb
        subst hb
        have X := And.intro F186.box (And.intro F186.loop (And.intro F186.bty (And.intro O185 (And.intro s184.len X))))
        refine Tw ?_
        exact hn _ _ o181 6 M182 Cw Cw trivial s184 ex0
 ·have hb := Option.some.inj hb
  subst hb
  have hn : _ = _ := hn
  subst hn
  have X := And.intro c46 X
  refine Tw ?_
  exact ex0 _ _ l_27 o28 e29 M30 rfl Cw trivial s31
def G_burinlaw05_said (k : Nat) (words_2 : Bytes) (a_3 : List T_api_Tok) (b_8 : List T_api_Tok) : Option (Int × Bool × Int) :=
 loopO (G_burinlaw05_said_L1 words_2 a_3 b_8) (([] : List T_api_Tok), (0 : Int)) >>= fun l_189 =>
 G_cond_Eval k l_189 >>= fun (r205, r206, r207) =>
 some (r205, r206, r207)
theorem G_burinlaw05_said_ok {k : Nat} {words_2 : Bytes} {a_3 : List T_api_Tok} {b_8 : List T_api_Tok} {o4 : Own} {e5 : Nat} {M6 : List (List PV)} {o9 : Own} {e10 : Nat} {M11 : List (List PV)} {r13 : Int} {r14 : Bool} {r15 : Int} (hx : G_burinlaw05_said k words_2 a_3 b_8 = some (r13, r14, r15)) (s7 : SlR 6 T_api_Tok.R o4 e5 a_3 M6) (s12 : SlR 6 T_api_Tok.R o9 e10 b_8 M11) : PureE E 30 [(.str words_2), (.slice o4 e5 M6), (.slice o9 e10 M11)] (fun v => v = (.tuple [(.int .u64 r13), (.bool r14), (.int .i64 r15)])) := by
 refine pureE_ok fn_burinlaw05_said rfl ?_
 have hb := hx
 dsimp only [G_burinlaw05_said] at hb
 have X := And.intro s7.len (s12.len)
 refine Tw ?_
 refine bnd1 hb (fun q200 h201 hb => ?_)
 refine G_burinlaw05_said_L1_ok (o18 := o4) (e19 := e5) (M20 := M6) (o23 := o9) (e24 := e10) (M25 := M11) _ _ _ h201 s7 s12 _ _ .nil 0 [] Cw Cw trivial (slr_nil (R := T_api_Tok.R)) ?_
 ·intro f194 h195 l_189 o190 e191 M192 ex Y196 Y198 s193
  subst ex
  have X := And.intro Y196 (And.intro s193.len X)
  refine Tw ?_
  refine bnd3 hb (fun r205 r206 r207 h208 hb => ?_)
  try dsimp only at hb
  refine pq_eq (G_cond_Eval_ok h208 s193.st) ?_
  have hb := Option.some.inj hb
  obtain ⟨e0, hb⟩ := Prod.mk.inj hb
  obtain ⟨e1, e2⟩ := Prod.mk.inj hb
  subst e0
  subst e1
  subst e2
  refine Tw ?_
  exact endI rfl
def G_burinlaw05_closed_L1 (l_8 : List T_api_Tok) : Int × Int → Option ((Int × Int) ⊕ (Ex2 (Unit) (Int))) := fun (deep_13, i_14) =>
 if (decide (i_14 < ((List.length l_8 : Nat) : Int))) then
  (
   idx l_8 i_14 >>= fun x29 =>
   if (x29.S_ == ([40] : Bytes)) then
    some (IntKind.wrap .i64 (deep_13 + (1 : Int)))
   else
    some deep_13
  ) >>= fun deep_32 =>
  idx l_8 i_14 >>= fun x42 =>
  if (x42.S_ == ([41] : Bytes)) then
   if (decide ((IntKind.wrap .i64 (deep_32 - (1 : Int))) < (0 : Int))) then
    some (Sum.inr (Ex2.a ()))
   else
    some (Sum.inl ((IntKind.wrap .i64 (deep_32 - (1 : Int))), (IntKind.wrap .i64 (i_14 + (1 : Int)))))
  else
   if (decide (deep_32 < (0 : Int))) then
    some (Sum.inr (Ex2.a ()))
   else
    some (Sum.inl (deep_32, (IntKind.wrap .i64 (i_14 + (1 : Int)))))
 else
  some (Sum.inr (Ex2.b deep_13))
theorem G_burinlaw05_closed_L1_ok {κ : Kt} {t : Blk κ} {l_8 : List T_api_Tok} {o9 : Own} {e10 : Nat} {M11 : List (List PV)} {h16 : Heap} (deep_13 : Int) (i_14 : Int) (x : Ex2 (Unit) (Int)) (hx : loopO (G_burinlaw05_closed_L1 l_8) (deep_13, i_14) = some x) (hh : True) (ho : True) (s12 : SlR 6 T_api_Tok.R o9 e10 l_8 M11) : ∀ (f15 : Fr), (f15 0 = (.slice o9 e10 M11) ∧ f15 3 = (.int .i64 deep_13) ∧ f15 4 = (.int .i64 i_14)) → (∀ (f47 : Fr), Ex2.a () = x → (f47 2 = (.bool false)) → κ.R f47 h16) → (∀ (f53 : Fr) (deep_52 : Int), Ex2.b deep_52 = x → (f53 3 = (.int .i64 deep_52)) → κ.B 0 f53 h16) → Lq E (.loop L_burinlaw05_closed_1) κ t f15 h16 := by
 revert deep_13 i_14 x
 refine loop2' ?_
 intro deep_13 i_14 r hb x hn f15  Y17  ex0 ex1
 dsimp only [G_burinlaw05_closed_L1] at hb
 refine loop_step L_burinlaw05_closed_1.eq_1 ?_
 have X := And.intro Y17 (s12.len)
 refine Tw ?_
 refine Tw ?_
 refine bq_if hb rfl (fun c25 hb => ?_) (fun c25 hb => ?_)
 ·have X := And.intro c25 X
  refine Tw ?_
  refine bnd1 hb (fun j38 hj hb => ?_)
  refine wq_joinF (fun Z => ∀ (f33 : Fr) (deep_32 : Int), deep_32 = j38 → (f33 0 = (.slice o9 e10 M11) ∧ f33 3 = (.int .i64 deep_32) ∧ f33 4 = (.int .i64 i_14)) → Z f33) (fun Z hX28 => ?_) ?_
  ·have hr27 := hb
   clear hb
   have hb := hj
   clear hj
   refine wq_def J_burinlaw05_closed_1.eq_1 ?_
   refine Tw ?_
   refine Tw ?_
   refine vq_iaddr s12 hb (fun x29 cs30 hx29 hb hcs30 => ?_)
   cases (show cs30 = [(.int .i64 x29.Kind_), (.str x29.S_), (.str x29.File_), (.int .i64 x29.Line_), (.bool x29.Space_), (.bool x29.First_)] from hcs30)
   refine Tw ?_
   refine bq_if hb rfl (fun c31 hb => ?_) (fun c31 hb => ?_)
   ·have hb := Option.some.inj hb
    subst hb
    have X := And.intro c31 X
    refine Tw ?_
    exact hX28 _ (IntKind.wrap .i64 (deep_13 + (1 : Int))) rfl Cw
   ·have hb := Option.some.inj hb
    subst hb
    have X := And.intro c31 X
    refine Tw ?_
    exact hX28 _ deep_13 rfl Cw
  ·intro f33 deep_32 ej Y35
   subst ej
   try dsimp only at hb
   have X := And.intro Y35 X
   refine Tw ?_
   refine vq_iaddr s12 hb (fun x42 cs43 hx42 hb hcs43 => ?_)
   cases (show cs43 = [(.int .i64 x42.Kind_), (.str x42.S_), (.str x42.File_), (.int .i64 x42.Line_), (.bool x42.Space_), (.bool x42.First_)] from hcs43)
   refine Tw ?_
   refine bq_if hb rfl (fun c44 hb => ?_) (fun c44 hb => ?_)
   ·have X := And.intro c44 X
    refine Tw ?_
    refine bq_if hb rfl (fun c45 hb => ?_) (fun c45 hb => ?_)
    ·have hb := Option.some.inj hb
     subst hb
     have hn : _ = _ := hn
     subst hn
     have X := And.intro c45 X
     refine Tw ?_
     exact ex0 _ rfl Cw
    ·have hb := Option.some.inj hb
     subst hb
     have X := And.intro c45 X
     refine Tw ?_
     exact hn _  Cw ex0 ex1
   ·have X := And.intro c44 X
    refine Tw ?_
    refine bq_if hb rfl (fun c46 hb => ?_) (fun c46 hb => ?_)
    ·have hb := Option.some.inj hb
     subst hb
     have hn : _ = _ := hn
     subst hn
     have X := And.intro c46 X
     refine Tw ?_
     exact ex0 _ rfl Cw
    ·have hb := Option.some.inj hb
     subst hb
     have X := And.intro c46 X
     refine Tw ?_
     exact hn _  Cw ex0 ex1
 ·have hb := Option.some.inj hb
  subst hb
  have hn : _ = _ := hn
  subst hn
  have X := And.intro c25 X
  refine Tw ?_
  exact ex1 _ deep_13 rfl Cw
def G_burinlaw05_closed (l_2 : List T_api_Tok) : Option (Bool) :=
 loopO (G_burinlaw05_closed_L1 l_2) ((0 : Int), (0 : Int)) >>= fun q58 => match q58 with
  | .a _ =>
   some false
  | .b deep_52 =>
   some (deep_52 == (0 : Int))
theorem G_burinlaw05_closed_ok {l_2 : List T_api_Tok} {o3 : Own} {e4 : Nat} {M5 : List (List PV)} {r7 : Bool} (hx : G_burinlaw05_closed l_2 = some r7) (s6 : SlR 6 T_api_Tok.R o3 e4 l_2 M5) : PureE E 26 [(.slice o3 e4 M5)] (fun v => v = (.bool r7)) := by
 refine pureE_ok fn_burinlaw05_closed rfl ?_
 have hb := hx
 dsimp only [G_burinlaw05_closed] at hb
 have X := s6.len
 refine Tw ?_
 refine bnd1 hb (fun q58 h59 hb => ?_)
 refine G_burinlaw05_closed_L1_ok (o9 := o3) (e10 := e4) (M11 := M5) _ _ _ h59 trivial trivial s6 _ Cw ?_ ?_
 ·intro f47 ex Y49
  subst ex
  try dsimp only at hb
  have hb := Option.some.inj hb
  subst hb
  have X := And.intro Y49 X
  refine Tw ?_
  exact endI rfl
 ·intro f53 deep_52 ex Y55
  subst ex
  try dsimp only at hb
  have hb := Option.some.inj hb
  subst hb
  have X := And.intro Y55 X
  refine Tw ?_
  exact endI rfl
def G_burinlaw05_CondNots (k : Nat) (s_2 : Bytes) (t_3 : Bytes) : Option (Bool) :=
 G_burinlaw05_shown  >>= fun r5 =>
 subT s_2 (if (500 : Int) < ((List.length s_2 : Nat) : Int) then (500 : Int) else ((List.length s_2 : Nat) : Int)) >>= fun t7 =>
 G_burinlaw05_lexed t7 >>= fun r8 =>
 subT t_3 (if (500 : Int) < ((List.length t_3 : Nat) : Int) then (500 : Int) else ((List.length t_3 : Nat) : Int)) >>= fun t14 =>
 G_burinlaw05_lexed t14 >>= fun r15 =>
 G_burinlaw05_said k ([65] : Bytes) r8 r15 >>= fun (r21, r22, r23) =>
 G_burinlaw05_said k ([66] : Bytes) r8 r15 >>= fun (r25, r26, r27) =>
 (
  if (!(r23 == (0 : Int))) then
   some (Ex2.a r5)
  else
   if (!(r27 == (0 : Int))) then
    some (Ex2.a r5)
   else
    G_burinlaw05_closed r8 >>= fun r36 =>
    if (!r36) then
     some (Ex2.a r5)
    else
     G_burinlaw05_closed r15 >>= fun r40 =>
     if (!r40) then
      some (Ex2.a r5)
     else
      some (Ex2.b ())
 ) >>= fun j49 => match j49 with
  | .a q => some q
  | .b () =>
   G_burinlaw05_said k ([33, 40, 65, 38, 66, 41] : Bytes) r8 r15 >>= fun (r55, r56, r57) =>
   G_burinlaw05_said k ([33, 65, 124, 33, 66] : Bytes) r8 r15 >>= fun (r59, r60, r61) =>
   G_burinlaw05_said k ([33, 40, 65, 124, 66, 41] : Bytes) r8 r15 >>= fun (r63, r64, r65) =>
   G_burinlaw05_said k ([33, 65, 38, 33, 66] : Bytes) r8 r15 >>= fun (r67, r68, r69) =>
   G_burinlaw05_said k ([40, 65, 61, 66, 41, 43, 40, 65, 35, 66, 41] : Bytes) r8 r15 >>= fun (r71, r72, r73) =>
   (
    if (!(r21 == (0 : Int))) then
     if (!(r25 == (0 : Int))) then
      some (0 : Int)
     else
      some (1 : Int)
    else
     some (1 : Int)
   ) >>= fun both_80 =>
   if r5 then
    if (r57 == (0 : Int)) then
     if (r61 == (0 : Int)) then
      if (r65 == (0 : Int)) then
       if (r69 == (0 : Int)) then
        if (r73 == (0 : Int)) then
         if (r55 == r59) then
          if (r63 == r67) then
           if (r55 == both_80) then
            if (r71 == (1 : Int)) then
             some (!r72)
            else
             some false
           else
            some false
          else
           some false
         else
          some false
        else
         some false
       else
        some false
      else
       some false
     else
      some false
    else
     some false
   else
    some false
theorem G_burinlaw05_CondNots_ok {k : Nat} {s_2 : Bytes} {t_3 : Bytes} {r4 : Bool} (hx : G_burinlaw05_CondNots k s_2 t_3 = some r4) : PureE E 10 [(.str s_2), (.str t_3)] (fun v => v = (.bool r4)) := by
 refine pureE_ok fn_burinlaw05_CondNots rfl ?_
 have hb := hx
 dsimp only [G_burinlaw05_CondNots] at hb
 have X := True.intro
 refine Tw ?_
 refine bnd1 hb (fun r5 h6 hb => ?_)
 refine pq_eq (G_burinlaw05_shown_ok h6) ?_
 refine Tw ?_
 refine vq_subTs hb (fun t7 ht7 hb => ?_)
 refine Tw ?_
 refine bnd1 hb (fun r8 h13 hb => ?_)
 refine pq_in1 (G_burinlaw05_lexed_ok h13) (fun o9 e10 M11 s12 => ?_)
 have X := And.intro s12.len X
 refine Tw ?_
 refine vq_subTs hb (fun t14 ht14 hb => ?_)
 refine Tw ?_
 refine bnd1 hb (fun r15 h20 hb => ?_)
 refine pq_in1 (G_burinlaw05_lexed_ok h20) (fun o16 e17 M18 s19 => ?_)
 have X := And.intro s19.len X
 refine Tw ?_
 refine bnd3 hb (fun r21 r22 r23 h24 hb => ?_)
 try dsimp only at hb
 refine pq_eq (G_burinlaw05_said_ok h24 s12.st s19.st) ?_
 refine Tw ?_
 refine bnd3 hb (fun r25 r26 r27 h28 hb => ?_)
 try dsimp only at hb
 refine pq_eq (G_burinlaw05_said_ok h28 s12.st s19.st) ?_
 refine Tw ?_
 refine bnd1 hb (fun j49 hj hb => ?_)
 refine wq_joinF (fun Z => ∀ (f44 : Fr), Ex2.b () = j49 → (f44 5 = (.bool r5) ∧ f44 6 = (.slice o9 e10 M11) ∧ f44 7 = (.slice o16 e17 M18) ∧ f44 8 = (.int .u64 r21) ∧ f44 11 = (.int .u64 r25)) → Z f44) (fun Z hX31 => ?_) ?_
 ·have hr30 := hb
  clear hb
  have hb := hj
  clear hj
  refine wq_def J_burinlaw05_CondNots_1.eq_1 ?_
  refine Tw ?_
  refine Tw ?_
  refine bq_if hb rfl (fun c32 hb => ?_) (fun c32 hb => ?_)
  ·have hq := Option.some.inj hb
   subst hq
   try dsimp only at hr30
   have hb := hr30
   have hb := Option.some.inj hb
   subst hb
   have X := And.intro c32 X
   refine Tw ?_
   exact endI rfl
  ·have X := And.intro c32 X
   refine Tw ?_
   refine bq_if hb rfl (fun c34 hb => ?_) (fun c34 hb => ?_)
   ·have hq := Option.some.inj hb
    subst hq
    try dsimp only at hr30
    have hb := hr30
    have hb := Option.some.inj hb
    subst hb
    have X := And.intro c34 X
    refine Tw ?_
    exact endI rfl
   ·have X := And.intro c34 X
    refine Tw ?_
    refine bnd1 hb (fun r36 h37 hb => ?_)
    refine pq_eq (G_burinlaw05_closed_ok h37 s12.st) ?_
    refine Tw ?_
    refine bq_if hb rfl (fun c38 hb => ?_) (fun c38 hb => ?_)
    ·have hq := Option.some.inj hb
     subst hq
     try dsimp only at hr30
     have hb := hr30
     have hb := Option.some.inj hb
     subst hb
     have X := And.intro c38 X
     refine Tw ?_
     exact endI rfl
    ·have X := And.intro c38 X
     refine Tw ?_
     refine bnd1 hb (fun r40 h41 hb => ?_)
     refine pq_eq (G_burinlaw05_closed_ok h41 s19.st) ?_
     refine Tw ?_
     refine bq_if hb rfl (fun c42 hb => ?_) (fun c42 hb => ?_)
     ·have hq := Option.some.inj hb
      subst hq
      try dsimp only at hr30
      have hb := hr30
      have hb := Option.some.inj hb
      subst hb
      have X := And.intro c42 X
      refine Tw ?_
      exact endI rfl
     ·have hb := Option.some.inj hb
      subst hb
      have X := And.intro c42 X
      refine Tw ?_
      exact hX31 _ rfl Cw
 ·intro f44 ej Y46
  subst ej
  try dsimp only at hb
  have X := And.intro Y46 X
  refine Tw ?_
  refine bnd3 hb (fun r55 r56 r57 h58 hb => ?_)
  try dsimp only at hb
  refine pq_eq (G_burinlaw05_said_ok h58 s12.st s19.st) ?_
  refine Tw ?_
  refine bnd3 hb (fun r59 r60 r61 h62 hb => ?_)
  try dsimp only at hb
  refine pq_eq (G_burinlaw05_said_ok h62 s12.st s19.st) ?_
  refine Tw ?_
  refine bnd3 hb (fun r63 r64 r65 h66 hb => ?_)
  try dsimp only at hb
  refine pq_eq (G_burinlaw05_said_ok h66 s12.st s19.st) ?_
  refine Tw ?_
  refine bnd3 hb (fun r67 r68 r69 h70 hb => ?_)
  try dsimp only at hb
  refine pq_eq (G_burinlaw05_said_ok h70 s12.st s19.st) ?_
  refine Tw ?_
  refine bnd3 hb (fun r71 r72 r73 h74 hb => ?_)
  try dsimp only at hb
  refine pq_eq (G_burinlaw05_said_ok h74 s12.st s19.st) ?_
  refine Tw ?_
  refine bnd1 hb (fun j86 hj hb => ?_)
  refine wq_joinF (fun Z => ∀ (f81 : Fr) (both_80 : Int), both_80 = j86 → (f81 5 = (.bool r5) ∧ f81 14 = (.int .u64 r55) ∧ f81 16 = (.int .i64 r57) ∧ f81 17 = (.int .u64 r59) ∧ f81 19 = (.int .i64 r61) ∧ f81 20 = (.int .u64 r63) ∧ f81 22 = (.int .i64 r65) ∧ f81 23 = (.int .u64 r67) ∧ f81 25 = (.int .i64 r69) ∧ f81 26 = (.int .u64 r71) ∧ f81 27 = (.bool r72) ∧ f81 28 = (.int .i64 r73) ∧ f81 29 = (.int .u64 both_80)) → Z f81) (fun Z hX77 => ?_) ?_
  ·have hr76 := hb
   clear hb
   have hb := hj
   clear hj
   refine wq_def J_burinlaw05_CondNots_2.eq_1 ?_
   refine Tw ?_
   refine Tw ?_
   refine bq_if hb rfl (fun c78 hb => ?_) (fun c78 hb => ?_)
   ·have X := And.intro c78 X
    refine Tw ?_
    refine bq_if hb rfl (fun c79 hb => ?_) (fun c79 hb => ?_)
    ·have hb := Option.some.inj hb
     subst hb
     have X := And.intro c79 X
     refine Tw ?_
     exact hX77 _ (0 : Int) rfl Cw
    ·have hb := Option.some.inj hb
     subst hb
     have X := And.intro c79 X
     refine Tw ?_
     exact hX77 _ (1 : Int) rfl Cw
   ·have hb := Option.some.inj hb
    subst hb
    have X := And.intro c78 X
    refine Tw ?_
    exact hX77 _ (1 : Int) rfl Cw
  ·intro f81 both_80 ej Y83
   subst ej
   try dsimp only at hb
   have X := And.intro Y83 X
   refine Tw ?_
   refine bq_if hb rfl (fun c100 hb => ?_) (fun c100 hb => ?_)
   ·have X := And.intro c100 X
    refine Tw ?_
    refine bq_if hb rfl (fun c101 hb => ?_) (fun c101 hb => ?_)
    ·have X := And.intro c101 X
     refine Tw ?_
     refine bq_if hb rfl (fun c102 hb => ?_) (fun c102 hb => ?_)
     ·have X := And.intro c102 X
      refine Tw ?_
      refine bq_if hb rfl (fun c103 hb => ?_) (fun c103 hb => ?_)
      ·have X := And.intro c103 X
       refine Tw ?_
       refine bq_if hb rfl (fun c104 hb => ?_) (fun c104 hb => ?_)
       ·have X := And.intro c104 X
        refine Tw ?_
        refine bq_if hb rfl (fun c105 hb => ?_) (fun c105 hb => ?_)
        ·have X := And.intro c105 X
         refine Tw ?_
         refine bq_if hb rfl (fun c106 hb => ?_) (fun c106 hb => ?_)
         ·have X := And.intro c106 X
          refine Tw ?_
          refine bq_if hb rfl (fun c107 hb => ?_) (fun c107 hb => ?_)
          ·have X := And.intro c107 X
           refine Tw ?_
           refine bq_if hb rfl (fun c108 hb => ?_) (fun c108 hb => ?_)
           ·have X := And.intro c108 X
            refine Tw ?_
            refine bq_if hb rfl (fun c109 hb => ?_) (fun c109 hb => ?_)
            ·have hb := Option.some.inj hb
             subst hb
             have X := And.intro c109 X
             refine Tw ?_
             exact endI rfl
            ·have hb := Option.some.inj hb
             subst hb
             have X := And.intro c109 X
             refine Tw ?_
             exact endI rfl
           ·have hb := Option.some.inj hb
            subst hb
            have X := And.intro c108 X
            refine Tw ?_
            exact endI rfl
          ·have hb := Option.some.inj hb
           subst hb
           have X := And.intro c107 X
           refine Tw ?_
           exact endI rfl
         ·have hb := Option.some.inj hb
          subst hb
          have X := And.intro c106 X
          refine Tw ?_
          exact endI rfl
        ·have hb := Option.some.inj hb
         subst hb
         have X := And.intro c105 X
         refine Tw ?_
         exact endI rfl
       ·have hb := Option.some.inj hb
        subst hb
        have X := And.intro c104 X
        refine Tw ?_
        exact endI rfl
      ·have hb := Option.some.inj hb
       subst hb
       have X := And.intro c103 X
       refine Tw ?_
       exact endI rfl
     ·have hb := Option.some.inj hb
      subst hb
      have X := And.intro c102 X
      refine Tw ?_
      exact endI rfl
    ·have hb := Option.some.inj hb
     subst hb
     have X := And.intro c101 X
     refine Tw ?_
     exact endI rfl
   ·have hb := Option.some.inj hb
    subst hb
    have X := And.intro c100 X
    refine Tw ?_
    exact endI rfl
def G_burinref05_parser_divide (p_2 : T_burinref05_parser) (op_9 : Bytes) (a_10 : T_burinref05_Value) (b_11 : T_burinref05_Value) (live_12 : Bool) : Option (T_burinref05_Value × T_burinref05_parser) :=
 (
  if a_10.U_ then
   some (true, true)
  else
   some (b_11.U_, false)
 ) >>= fun (u_32, v38) =>
 if (b_11.V_ == (0 : Int)) then
  if p_2.ok_ then
   some ((T_burinref05_Value.mk (0 : Int) u_32), (T_burinref05_parser.mk p_2.l_ p_2.at_ (!live_12)))
  else
   some ((T_burinref05_Value.mk (0 : Int) u_32), (T_burinref05_parser.mk p_2.l_ p_2.at_ false))
 else
  if u_32 then
   if (op_9 == ([47] : Bytes)) then
    quo .u64 a_10.V_ b_11.V_ >>= fun i61 =>
    some ((T_burinref05_Value.mk i61 true), p_2)
   else
    rem a_10.V_ b_11.V_ >>= fun i63 =>
    some ((T_burinref05_Value.mk i63 true), p_2)
  else
   if (b_11.V_ == (18446744073709551615 : Int)) then
    if (op_9 == ([47] : Bytes)) then
     some ((T_burinref05_Value.mk (IntKind.wrap .u64 (0 - a_10.V_)) false), p_2)
    else
     some ((T_burinref05_Value.mk (0 : Int) false), p_2)
   else
    if (op_9 == ([47] : Bytes)) then
     quo .i64 (IntKind.wrap .i64 a_10.V_) (IntKind.wrap .i64 b_11.V_) >>= fun i70 =>
     some ((T_burinref05_Value.mk (IntKind.wrap .u64 i70) false), p_2)
    else
     rem (IntKind.wrap .i64 a_10.V_) (IntKind.wrap .i64 b_11.V_) >>= fun i72 =>
     some ((T_burinref05_Value.mk (IntKind.wrap .u64 i72) false), p_2)
def G_burinref05_parser_shift (p_2 : T_burinref05_parser) (op_9 : Bytes) (a_10 : T_burinref05_Value) (b_11 : T_burinref05_Value) (live_12 : Bool) : Option (T_burinref05_Value × T_burinref05_parser) :=
 if (decide ((64 : Int) ≤ b_11.V_)) then
  if p_2.ok_ then
   some ((T_burinref05_Value.mk (0 : Int) a_10.U_), (T_burinref05_parser.mk p_2.l_ p_2.at_ (!live_12)))
  else
   some ((T_burinref05_Value.mk (0 : Int) a_10.U_), (T_burinref05_parser.mk p_2.l_ p_2.at_ false))
 else
  if (op_9 == ([60, 60] : Bytes)) then
   shl .u64 a_10.V_ b_11.V_ >>= fun i35 =>
   some ((T_burinref05_Value.mk i35 a_10.U_), p_2)
  else
   if a_10.U_ then
    shr .u64 a_10.V_ b_11.V_ >>= fun i38 =>
    some ((T_burinref05_Value.mk i38 true), p_2)
   else
    shr .i64 (IntKind.wrap .i64 a_10.V_) b_11.V_ >>= fun i40 =>
    some ((T_burinref05_Value.mk (IntKind.wrap .u64 i40) false), p_2)
end Go.Proofs.YtmngkcpobmhnoaaGreatDoor.Sim
