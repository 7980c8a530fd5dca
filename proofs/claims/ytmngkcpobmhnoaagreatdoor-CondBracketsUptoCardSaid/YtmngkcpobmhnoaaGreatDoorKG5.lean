/- Printed functions, continued. -/
import Derived.Test.YtmngkcpobmhnoaaGreatDoorKG4
set_option linter.all false
set_option maxHeartbeats 4000000
set_option maxRecDepth 20000
namespace Go.Proofs.YtmngkcpobmhnoaaGreatDoor.Sim
theorem G_cond_eval_atom_b_ok {F : Rec_cond_eval_choice} (hF : Rec_cond_eval_choice.OK F) {h1 : Heap} {b4 : Nat} {p_2 : T_cond_eval} {counts_9 : Bool} {o5 : Own} {e6 : Nat} {M7 : List (List PV)} {r10 : T_cond_value} {r11 : T_cond_eval} (hx : G_cond_eval_atom_b F p_2 counts_9 = some (r10, r11)) (z16 : h1.box b4 = some [(.slice o5 e6 M7), (.bool p_2.bad_)]) (w17 : b4 < h1.n) (s8 : SlR 6 T_api_Tok.R o5 e6 p_2.l_ M7) : CallC E (.func 125 [] []) [(.ptr b4 0), (.bool counts_9)] h1 (fun v h18 => ∃ o12 e13 M14, v = (.agg [(.int .u64 r10.v_), (.bool r10.u_)]) ∧ h18.box b4 = some [(.slice o12 e13 M14), (.bool r11.bad_)] ∧ FrB [b4] h1 h18 ∧ SlR 6 T_api_Tok.R o12 e13 r11.l_ M14) := by
 refine callE_ok fn_cond_eval_atom rfl ?_
 have hb := hx
 dsimp only [G_cond_eval_atom_b] at hb
 have X := And.intro z16 (s8.len)
 refine Tw ?_
 refine bnd2 hb (fun r21 p22 h27 hb => ?_)
 try dsimp only at hb
 refine fq_mono1 (G_cond_eval_take_ok h27 Cw Cn s8) (fun o23 e24 M25 h28 S180 => ?_)
 have z31 := S180.1
 have F29 := S180.2.1
 have s26 := S180.2.2
 have q30 := F29.n
 try simp only [HN] at q30
 have F32 : FrB [b4] h1 h28 := FrB.call Cf F29 (by intro j hj; simp only [List.mem_cons, List.not_mem_nil, or_false] at hj; first | (subst hj; left; simp; done) | (right; omega))
 have X := And.intro z31 (And.intro F29.box1 (And.intro F29.loop (And.intro F29.bty (And.intro F32 (And.intro s26.len X)))))
 refine Tw ?_
 refine bq_if hb rfl (fun c34 hb => ?_) (fun c34 hb => ?_)
 ·have X := And.intro c34 X
  refine Tw ?_
  refine bnd2 hb (fun r35 p36 h41 hb => ?_)
  try dsimp only at hb
  refine fq_mono1 (hF.cond_eval_choice h41 Cw Cn s26) (fun o37 e38 M39 h42 S79 => ?_)
  have z45 := S79.1
  have F43 := S79.2.1
  have s40 := S79.2.2
  have q44 := F43.n
  try simp only [HN] at q44
  have F46 : FrB [b4] h1 h42 := FrB.call Cf F43 (by intro j hj; simp only [List.mem_cons, List.not_mem_nil, or_false] at hj; first | (subst hj; left; simp; done) | (right; omega))
  have X := And.intro z45 (And.intro F43.box1 (And.intro F43.loop (And.intro F43.bty (And.intro F46 (And.intro s40.len X)))))
  refine Tw ?_
  refine bnd2 hb (fun r51 p52 h57 hb => ?_)
  try dsimp only at hb
  refine fq_mono1 (G_cond_eval_take_ok h57 Cw Cn s40) (fun o53 e54 M55 h58 S78 => ?_)
  have z61 := S78.1
  have F59 := S78.2.1
  have s56 := S78.2.2
  have q60 := F59.n
  try simp only [HN] at q60
  have F62 : FrB [b4] h1 h58 := FrB.call Cf F59 (by intro j hj; simp only [List.mem_cons, List.not_mem_nil, or_false] at hj; first | (subst hj; left; simp; done) | (right; omega))
  have X := And.intro z61 (And.intro F59.box1 (And.intro F59.loop (And.intro F59.bty (And.intro F62 (And.intro s56.len X)))))
  refine Tw ?_
  refine bnd1 hb (fun p64 h69 hb => ?_)
  refine fq_mono1 (G_cond_eval_fails_ok h69 Cw Cn s56) (fun o65 e66 M67 h70 S77 => ?_)
  have z73 := S77.1
  have F71 := S77.2.1
  have s68 := S77.2.2
  have q72 := F71.n
  try simp only [HN] at q72
  have F74 : FrB [b4] h1 h70 := FrB.call Cf F71 (by intro j hj; simp only [List.mem_cons, List.not_mem_nil, or_false] at hj; first | (subst hj; left; simp; done) | (right; omega))
  have hb := Option.some.inj hb
  obtain ⟨e0, e1⟩ := Prod.mk.inj hb
  subst e0
  subst e1
  have X := And.intro z73 (And.intro F71.box1 (And.intro F71.loop (And.intro F71.bty (And.intro F74 (And.intro s68.len X)))))
  refine Tw ?_
  exact endHI ⟨o65, e66, M67, rfl, Cw, Cf, s68⟩
 ·have X := And.intro c34 X
  refine Tw ?_
  refine bnd1 hb (fun j96 hj hb => ?_)
  refine wq_joinF (fun Z => ∀ (f91 : Fr), Ex2.b () = j96 → (f91 0 = (.ptr b4 0) ∧ f91 4 = (.ptr h1.n 0)) → Z f91) (fun Z hX82 => ?_) ?_
  ·have hr81 := hb
   clear hb
   have hb := hj
   clear hj
   refine wq_def J_cond_eval_atom_1.eq_1 ?_
   refine Tw ?_
   refine Tw ?_
   refine bq_if hb rfl (fun c83 hb => ?_) (fun c83 hb => ?_)
   ·have hq := Option.some.inj hb
    subst hq
    try dsimp only at hr81
    have hb := hr81
    have hb := Option.some.inj hb
    obtain ⟨e0, e1⟩ := Prod.mk.inj hb
    subst e0
    subst e1
    have X := And.intro c83 X
    refine Tw ?_
    exact endHI ⟨o23, e24, M25, rfl, Cw, Cf, s26⟩
   ·have X := And.intro c83 X
    refine Tw ?_
    refine bq_if hb rfl (fun c87 hb => ?_) (fun c87 hb => ?_)
    ·have hq := Option.some.inj hb
     subst hq
     try dsimp only at hr81
     have hb := hr81
     have hb := Option.some.inj hb
     obtain ⟨e0, e1⟩ := Prod.mk.inj hb
     subst e0
     subst e1
     have X := And.intro c87 X
     refine Tw ?_
     exact endHI ⟨o23, e24, M25, rfl, Cw, Cf, s26⟩
    ·have hb := Option.some.inj hb
     subst hb
     have X := And.intro c87 X
     refine Tw ?_
     exact hX82 _ rfl Cf
  ·intro f91 ej Y93
   subst ej
   try dsimp only at hb
   have X := And.intro Y93 X
   refine Tw ?_
   refine vq_iaddr s26 hb (fun x99 cs100 hx99 hb hcs100 => ?_)
   cases (show cs100 = [(.int .i64 x99.Kind_), (.str x99.S_), (.str x99.File_), (.int .i64 x99.Line_), (.bool x99.Space_), (.bool x99.First_)] from hcs100)
   refine Tw ?_
   refine vq_subF s26 hb (fun t104 o105 M106 ht104 hb s107 => ?_)
   have X := And.intro s107.len X
   refine Tw ?_
   refine bq_if hb rfl (fun c109 hb => ?_) (fun c109 hb => ?_)
   ·have hb := Option.some.inj hb
    obtain ⟨e0, e1⟩ := Prod.mk.inj hb
    subst e0
    subst e1
    have X := And.intro c109 X
    refine Tw ?_
    exact endHI ⟨o105, e24, M106, rfl, Cw, Cf, s107⟩
   ·have X := And.intro c109 X
    refine Tw ?_
    refine bq_if hb rfl (fun c111 hb => ?_) (fun c111 hb => ?_)
    ·have X := And.intro c111 X
     refine Tw ?_
     refine bnd3 hb (fun r112 r113 r114 h115 hb => ?_)
     try dsimp only at hb
     refine pq_eq (G_cond_Number_ok h115) ?_
     refine Tw ?_
     refine bq_if hb rfl (fun c116 hb => ?_) (fun c116 hb => ?_)
     ·have X := And.intro c116 X
      refine Tw ?_
      refine bnd1 hb (fun p117 h122 hb => ?_)
      refine fq_mono1 (G_cond_eval_fails_ok h122 Cw Cn s107) (fun o118 e119 M120 h123 S130 => ?_)
      have z126 := S130.1
      have F124 := S130.2.1
      have s121 := S130.2.2
      have q125 := F124.n
      try simp only [HN] at q125
      have F127 : FrB [b4] h1 h123 := FrB.call Cf F124 (by intro j hj; simp only [List.mem_cons, List.not_mem_nil, or_false] at hj; first | (subst hj; left; simp; done) | (right; omega))
      have hb := Option.some.inj hb
      obtain ⟨e0, e1⟩ := Prod.mk.inj hb
      subst e0
      subst e1
      have X := And.intro z126 (And.intro F124.box1 (And.intro F124.loop (And.intro F124.bty (And.intro F127 (And.intro s121.len X)))))
      refine Tw ?_
      exact endHI ⟨o118, e119, M120, rfl, Cw, Cf, s121⟩
     ·have X := And.intro c116 X
      refine Tw ?_
      refine bq_if hb rfl (fun c131 hb => ?_) (fun c131 hb => ?_)
      ·have X := And.intro c131 X
       refine Tw ?_
       refine bnd1 hb (fun p132 h137 hb => ?_)
       refine fq_mono1 (G_cond_eval_fails_ok h137 Cw Cn s107) (fun o133 e134 M135 h138 S145 => ?_)
       have z141 := S145.1
       have F139 := S145.2.1
       have s136 := S145.2.2
       have q140 := F139.n
       try simp only [HN] at q140
       have F142 : FrB [b4] h1 h138 := FrB.call Cf F139 (by intro j hj; simp only [List.mem_cons, List.not_mem_nil, or_false] at hj; first | (subst hj; left; simp; done) | (right; omega))
       have hb := Option.some.inj hb
       obtain ⟨e0, e1⟩ := Prod.mk.inj hb
       subst e0
       subst e1
       have X := And.intro z141 (And.intro F139.box1 (And.intro F139.loop (And.intro F139.bty (And.intro F142 (And.intro s136.len X)))))
       refine Tw ?_
       exact endHI ⟨o133, e134, M135, rfl, Cw, Cf, s136⟩
      ·have X := And.intro c131 X
       refine Tw ?_
       refine bnd1 hb (fun p146 h151 hb => ?_)
       refine fq_mono1 (G_cond_eval_fails_ok h151 Cw Cn s107) (fun o147 e148 M149 h152 S159 => ?_)
       have z155 := S159.1
       have F153 := S159.2.1
       have s150 := S159.2.2
       have q154 := F153.n
       try simp only [HN] at q154
       have F156 : FrB [b4] h1 h152 := FrB.call Cf F153 (by intro j hj; simp only [List.mem_cons, List.not_mem_nil, or_false] at hj; first | (subst hj; left; simp; done) | (right; omega))
       have hb := Option.some.inj hb
       obtain ⟨e0, e1⟩ := Prod.mk.inj hb
       subst e0
       subst e1
       have X := And.intro z155 (And.intro F153.box1 (And.intro F153.loop (And.intro F153.bty (And.intro F156 (And.intro s150.len X)))))
       refine Tw ?_
       exact endHI ⟨o147, e148, M149, rfl, Cw, Cf, s150⟩
    ·have X := And.intro c111 X
     refine Tw ?_
     refine bq_if hb rfl (fun c160 hb => ?_) (fun c160 hb => ?_)
     ·have X := And.intro c160 X
      refine Tw ?_
      refine bnd2 hb (fun r161 r162 h163 hb => ?_)
      try dsimp only at hb
      refine pq_eq (G_cond_Char_ok h163) ?_
      refine Tw ?_
      refine bnd1 hb (fun p164 h169 hb => ?_)
      refine fq_mono1 (G_cond_eval_fails_ok h169 Cw Cn s107) (fun o165 e166 M167 h170 S177 => ?_)
      have z173 := S177.1
      have F171 := S177.2.1
      have s168 := S177.2.2
      have q172 := F171.n
      try simp only [HN] at q172
      have F174 : FrB [b4] h1 h170 := FrB.call Cf F171 (by intro j hj; simp only [List.mem_cons, List.not_mem_nil, or_false] at hj; first | (subst hj; left; simp; done) | (right; omega))
      have hb := Option.some.inj hb
      obtain ⟨e0, e1⟩ := Prod.mk.inj hb
      subst e0
      subst e1
      have X := And.intro z173 (And.intro F171.box1 (And.intro F171.loop (And.intro F171.bty (And.intro F174 (And.intro s168.len X)))))
      refine Tw ?_
      exact endHI ⟨o165, e166, M167, rfl, Cw, Cf, s168⟩
     ·have hb := Option.some.inj hb
      obtain ⟨e0, e1⟩ := Prod.mk.inj hb
      subst e0
      subst e1
      have X := And.intro c160 X
      refine Tw ?_
      exact endHI ⟨o105, e24, M106, rfl, Cw, Cf, s107⟩
def Rec_cond_eval_choice.lvl : Nat → Rec_cond_eval_choice
 | 0 => ⟨fun _ _ => none, fun _ _ _ => none, fun _ _ => none, fun _ _ => none⟩
 | j + 1 => ⟨G_cond_eval_choice_b (Rec_cond_eval_choice.lvl j), G_cond_eval_chain_b (Rec_cond_eval_choice.lvl j), G_cond_eval_unary_b (Rec_cond_eval_choice.lvl j), G_cond_eval_atom_b (Rec_cond_eval_choice.lvl j)⟩
theorem Rec_cond_eval_choice.lvl_ok : ∀ j, (Rec_cond_eval_choice.lvl j).OK
 | 0 => ⟨(fun hx _ _ _ => none_elim hx), (fun hx _ _ _ => none_elim hx), (fun hx _ _ _ => none_elim hx), (fun hx _ _ _ => none_elim hx)⟩
 | j + 1 => ⟨fun hx a0 a1 a2 => G_cond_eval_choice_b_ok (Rec_cond_eval_choice.lvl_ok j) hx a0 a1 a2, fun hx a0 a1 a2 => G_cond_eval_chain_b_ok (Rec_cond_eval_choice.lvl_ok j) hx a0 a1 a2, fun hx a0 a1 a2 => G_cond_eval_unary_b_ok (Rec_cond_eval_choice.lvl_ok j) hx a0 a1 a2, fun hx a0 a1 a2 => G_cond_eval_atom_b_ok (Rec_cond_eval_choice.lvl_ok j) hx a0 a1 a2⟩
def G_cond_eval_choice (k : Nat) : T_cond_eval → Bool → Option (T_cond_value × T_cond_eval) := (Rec_cond_eval_choice.lvl k).cond_eval_choice
theorem G_cond_eval_choice_ok {k : Nat} {h1 : Heap} {b4 : Nat} {p_2 : T_cond_eval} {counts_9 : Bool} {o5 : Own} {e6 : Nat} {M7 : List (List PV)} {r10 : T_cond_value} {r11 : T_cond_eval} (hx : G_cond_eval_choice k p_2 counts_9 = some (r10, r11)) (z16 : h1.box b4 = some [(.slice o5 e6 M7), (.bool p_2.bad_)]) (w17 : b4 < h1.n) (s8 : SlR 6 T_api_Tok.R o5 e6 p_2.l_ M7) : CallC E (.func 38 [] []) [(.ptr b4 0), (.bool counts_9)] h1 (fun v h18 => ∃ o12 e13 M14, v = (.agg [(.int .u64 r10.v_), (.bool r10.u_)]) ∧ h18.box b4 = some [(.slice o12 e13 M14), (.bool r11.bad_)] ∧ FrB [b4] h1 h18 ∧ SlR 6 T_api_Tok.R o12 e13 r11.l_ M14) := (Rec_cond_eval_choice.lvl_ok k).cond_eval_choice hx z16 w17 s8
def G_cond_Eval (k : Nat) (l_2 : List T_api_Tok) : Option (Int × Bool × Int) :=
 G_cond_eval_choice k (T_cond_eval.mk l_2 false) true >>= fun (r12, p13) =>
 if p13.bad_ then
  some ((0 : Int), false, (50 : Int))
 else
  if (decide ((0 : Int) < ((List.length p13.l_ : Nat) : Int))) then
   some ((0 : Int), false, (50 : Int))
  else
   some (r12.v_, r12.u_, (0 : Int))
theorem G_cond_Eval_ok {k : Nat} {l_2 : List T_api_Tok} {o3 : Own} {e4 : Nat} {M5 : List (List PV)} {r7 : Int} {r8 : Bool} {r9 : Int} (hx : G_cond_Eval k l_2 = some (r7, r8, r9)) (s6 : SlR 6 T_api_Tok.R o3 e4 l_2 M5) : PureE E 22 [(.slice o3 e4 M5)] (fun v => v = (.tuple [(.int .u64 r7), (.bool r8), (.int .i64 r9)])) := by
 refine pureE_ok fn_cond_Eval rfl ?_
 have hb := hx
 dsimp only [G_cond_Eval] at hb
 have X := s6.len
 refine Tw ?_
 refine bnd2 hb (fun r12 p13 h18 hb => ?_)
 try dsimp only at hb
 refine fq_mono1 (G_cond_eval_choice_ok h18 Cw Cn s6) (fun o14 e15 M16 h19 S29 => ?_)
 have z22 := S29.1
 have F20 := S29.2.1
 have s17 := S29.2.2
 have q21 := F20.n
 try simp only [HN] at q21
 have X := And.intro z22 (And.intro F20.box1 (And.intro F20.loop (And.intro F20.bty (And.intro s17.len X))))
 refine Tw ?_
 refine bq_if hb rfl (fun c27 hb => ?_) (fun c27 hb => ?_)
 ·have hb := Option.some.inj hb
  obtain ⟨e0, hb⟩ := Prod.mk.inj hb
  obtain ⟨e1, e2⟩ := Prod.mk.inj hb
  subst e0
  subst e1
  subst e2
  have X := And.intro c27 X
  refine Tw ?_
  exact endI rfl
 ·have X := And.intro c27 X
  refine Tw ?_
  refine bq_if hb rfl (fun c28 hb => ?_) (fun c28 hb => ?_)
  ·have hb := Option.some.inj hb
   obtain ⟨e0, hb⟩ := Prod.mk.inj hb
   obtain ⟨e1, e2⟩ := Prod.mk.inj hb
   subst e0
   subst e1
   subst e2
   have X := And.intro c28 X
   refine Tw ?_
   exact endI rfl
  ·have hb := Option.some.inj hb
   obtain ⟨e0, hb⟩ := Prod.mk.inj hb
   obtain ⟨e1, e2⟩ := Prod.mk.inj hb
   subst e0
   subst e1
   subst e2
   have X := And.intro c28 X
   refine Tw ?_
   exact endI rfl
def G_burinlaw05_sign (s_2 : Bytes) : Option (T_api_Tok) :=
 some (T_api_Tok.mk (5 : Int) s_2 [] (0 : Int) false false)
theorem G_burinlaw05_sign_ok {s_2 : Bytes} {r3 : T_api_Tok} (hx : G_burinlaw05_sign s_2 = some r3) : PureE E 27 [(.str s_2)] (fun v => v = (.agg [(.int .i64 r3.Kind_), (.str r3.S_), (.str r3.File_), (.int .i64 r3.Line_), (.bool r3.Space_), (.bool r3.First_)])) := by
 refine pureE_ok fn_burinlaw05_sign rfl ?_
 have hb := hx
 dsimp only [G_burinlaw05_sign] at hb
 have hb := Option.some.inj hb
 subst hb
 have X := True.intro
 refine Tw ?_
 exact endI rfl
def G_burinlaw05_CondBrackets (k : Nat) (s_2 : Bytes) : Option (Bool) :=
 G_burinlaw05_shown  >>= fun r4 =>
 subT s_2 (if (1000 : Int) < ((List.length s_2 : Nat) : Int) then (1000 : Int) else ((List.length s_2 : Nat) : Int)) >>= fun t6 =>
 G_burinlaw05_lexed t6 >>= fun r7 =>
 G_burinlaw05_closed r7 >>= fun r13 =>
 if (!r13) then
  some r4
 else
  G_cond_Eval k r7 >>= fun (r16, r17, r18) =>
  G_burinlaw05_sign ([40] : Bytes) >>= fun r20 =>
  app 56 ([r20] : List T_api_Tok) r7 >>= fun t30 =>
  G_burinlaw05_sign ([41] : Bytes) >>= fun r39 =>
  app 56 t30 [r39] >>= fun t42 =>
  G_cond_Eval k t42 >>= fun (r51, r52, r53) =>
  G_burinlaw05_sign ([45] : Bytes) >>= fun r55 =>
  G_burinlaw05_sign ([45] : Bytes) >>= fun r57 =>
  app 56 ([r55, r57] : List T_api_Tok) t42 >>= fun t69 =>
  G_cond_Eval k t69 >>= fun (r80, r81, r82) =>
  G_burinlaw05_sign ([126] : Bytes) >>= fun r84 =>
  G_burinlaw05_sign ([43] : Bytes) >>= fun r86 =>
  G_burinlaw05_sign ([126] : Bytes) >>= fun r88 =>
  app 56 ([r84, r86, r88] : List T_api_Tok) t42 >>= fun t102 =>
  G_cond_Eval k t102 >>= fun (r115, r116, r117) =>
  if r4 then
   if (r16 == r51) then
    if (r17 == r52) then
     if (r18 == r53) then
      if (r16 == r80) then
       if (r17 == r81) then
        if (r18 == r82) then
         if (r16 == r115) then
          if (r17 == r116) then
           some (r18 == r117)
          else
           some false
         else
          some false
        else
         some false
       else
        some false
      else
       some false
     else
      some false
    else
     some false
   else
    some false
  else
   some false
theorem G_burinlaw05_CondBrackets_ok {k : Nat} {s_2 : Bytes} {r3 : Bool} (hx : G_burinlaw05_CondBrackets k s_2 = some r3) : PureE E 7 [(.str s_2)] (fun v => v = (.bool r3)) := by
 refine pureE_ok fn_burinlaw05_CondBrackets rfl ?_
 have hb := hx
 dsimp only [G_burinlaw05_CondBrackets] at hb
 have X := True.intro
 refine Tw ?_
 refine bnd1 hb (fun r4 h5 hb => ?_)
 refine pq_eq (G_burinlaw05_shown_ok h5) ?_
 refine Tw ?_
 refine vq_subTs hb (fun t6 ht6 hb => ?_)
 refine Tw ?_
 refine bnd1 hb (fun r7 h12 hb => ?_)
 refine pq_in1 (G_burinlaw05_lexed_ok h12) (fun o8 e9 M10 s11 => ?_)
 have X := And.intro s11.len X
 refine Tw ?_
 refine bnd1 hb (fun r13 h14 hb => ?_)
 refine pq_eq (G_burinlaw05_closed_ok h14 s11.st) ?_
 refine Tw ?_
 refine bq_if hb rfl (fun c15 hb => ?_) (fun c15 hb => ?_)
 ·have hb := Option.some.inj hb
  subst hb
  have X := And.intro c15 X
  refine Tw ?_
  exact endI rfl
 ·have X := And.intro c15 X
  refine Tw ?_
  refine bnd3 hb (fun r16 r17 r18 h19 hb => ?_)
  try dsimp only at hb
  refine pq_eq (G_cond_Eval_ok h19 s11.st) ?_
  refine Tw ?_
  refine bnd1 hb (fun r20 h21 hb => ?_)
  refine pq_eq (G_burinlaw05_sign_ok h21) ?_
  refine Tw ?_
  refine vq_new rfl (fun o22 h23 n27 O24 F25 => ?_)
  have q26 := F25.n
  try simp only [HN] at q26
  have s28 : SlR 6 T_api_Tok.R o22 6 ([r20] : List T_api_Tok) [[(.int .i64 r20.Kind_), (.str r20.S_), (.str r20.File_), (.int .i64 r20.Line_), (.bool r20.Space_), (.bool r20.First_)]] := (slr_cons n27 rfl (slr_0 (R := T_api_Tok.R)))
  have X := And.intro F25.box (And.intro F25.loop (And.intro F25.bty (And.intro O24 X)))
  refine Tw ?_
  refine vq_app s28 Cw s11 hb (fun t30 o31 M32 h33 ht30 hb s34 O35 F36 => ?_)
  have q37 := F36.n
  try simp only [HN] at q37
  have X := And.intro F36.box (And.intro F36.loop (And.intro F36.bty (And.intro O35 (And.intro s34.len X))))
  refine Tw ?_
  refine bnd1 hb (fun r39 h40 hb => ?_)
  refine pq_eq (G_burinlaw05_sign_ok h40) ?_
  refine Tw ?_
  refine vq_bsl rfl ?_
  refine Tw ?_
  refine vq_app s34 Cw (show SlR 6 T_api_Tok.R (.own h33.n) 6 ([r39] : List T_api_Tok) [[(.int .i64 r39.Kind_), (.str r39.S_), (.str r39.File_), (.int .i64 r39.Line_), (.bool r39.Space_), (.bool r39.First_)]] from (slr_cons (by simp) rfl (slr_0 (R := T_api_Tok.R)))) hb (fun t42 o43 M44 h45 ht42 hb s46 O47 F48 => ?_)
  have q49 := F48.n
  try simp only [HN] at q49
  have X := And.intro F48.box (And.intro F48.loop (And.intro F48.bty (And.intro O47 (And.intro s46.len X))))
  refine Tw ?_
  refine bnd3 hb (fun r51 r52 r53 h54 hb => ?_)
  try dsimp only at hb
  refine pq_eq (G_cond_Eval_ok h54 s46.st) ?_
  refine Tw ?_
  refine bnd1 hb (fun r55 h56 hb => ?_)
  refine pq_eq (G_burinlaw05_sign_ok h56) ?_
  refine Tw ?_
  refine bnd1 hb (fun r57 h58 hb => ?_)
  refine pq_eq (G_burinlaw05_sign_ok h58) ?_
  refine Tw ?_
  refine vq_new rfl (fun o59 h60 n64 O61 F62 => ?_)
  have q63 := F62.n
  try simp only [HN] at q63
  have s65 : SlR 6 T_api_Tok.R o59 6 ([r55, r57] : List T_api_Tok) [[(.int .i64 r55.Kind_), (.str r55.S_), (.str r55.File_), (.int .i64 r55.Line_), (.bool r55.Space_), (.bool r55.First_)], [(.int .i64 r57.Kind_), (.str r57.S_), (.str r57.File_), (.int .i64 r57.Line_), (.bool r57.Space_), (.bool r57.First_)]] := (slr_cons n64 rfl (slr_cons n64 rfl (slr_0 (R := T_api_Tok.R))))
  obtain ⟨O66, D67⟩ := F62.keep o43 Cw Cw
  have X := And.intro F62.box (And.intro F62.loop (And.intro F62.bty (And.intro O61 (And.intro O66 (And.intro D67 X)))))
  refine Tw ?_
  refine vq_app s65 Cw s46 hb (fun t69 o70 M71 h72 ht69 hb s73 O74 F75 => ?_)
  have q76 := F75.n
  try simp only [HN] at q76
  obtain ⟨O77, D78⟩ := F75.keep o43 Cw Cw
  have X := And.intro F75.box (And.intro F75.loop (And.intro F75.bty (And.intro O74 (And.intro O77 (And.intro D78 (And.intro s73.len X))))))
  refine Tw ?_
  refine bnd3 hb (fun r80 r81 r82 h83 hb => ?_)
  try dsimp only at hb
  refine pq_eq (G_cond_Eval_ok h83 s73.st) ?_
  refine Tw ?_
  refine bnd1 hb (fun r84 h85 hb => ?_)
  refine pq_eq (G_burinlaw05_sign_ok h85) ?_
  refine Tw ?_
  refine bnd1 hb (fun r86 h87 hb => ?_)
  refine pq_eq (G_burinlaw05_sign_ok h87) ?_
  refine Tw ?_
  refine bnd1 hb (fun r88 h89 hb => ?_)
  refine pq_eq (G_burinlaw05_sign_ok h89) ?_
  refine Tw ?_
  refine vq_new rfl (fun o90 h91 n95 O92 F93 => ?_)
  have q94 := F93.n
  try simp only [HN] at q94
  have s96 : SlR 6 T_api_Tok.R o90 6 ([r84, r86, r88] : List T_api_Tok) [[(.int .i64 r84.Kind_), (.str r84.S_), (.str r84.File_), (.int .i64 r84.Line_), (.bool r84.Space_), (.bool r84.First_)], [(.int .i64 r86.Kind_), (.str r86.S_), (.str r86.File_), (.int .i64 r86.Line_), (.bool r86.Space_), (.bool r86.First_)], [(.int .i64 r88.Kind_), (.str r88.S_), (.str r88.File_), (.int .i64 r88.Line_), (.bool r88.Space_), (.bool r88.First_)]] := (slr_cons n95 rfl (slr_cons n95 rfl (slr_cons n95 rfl (slr_0 (R := T_api_Tok.R)))))
  obtain ⟨O97, D98⟩ := F93.keep o43 Cw Cw
  obtain ⟨O99, D100⟩ := F93.keep o70 Cw Cw
  have X := And.intro F93.box (And.intro F93.loop (And.intro F93.bty (And.intro O92 (And.intro O97 (And.intro O99 (And.intro D98 (And.intro D100 X)))))))
  refine Tw ?_
  refine vq_app s96 Cw s46 hb (fun t102 o103 M104 h105 ht102 hb s106 O107 F108 => ?_)
  have q109 := F108.n
  try simp only [HN] at q109
  obtain ⟨O110, D111⟩ := F108.keep o43 Cw Cw
  obtain ⟨O112, D113⟩ := F108.keep o70 Cw Cw
  have X := And.intro F108.box (And.intro F108.loop (And.intro F108.bty (And.intro O107 (And.intro O110 (And.intro O112 (And.intro D111 (And.intro D113 (And.intro s106.len X))))))))
  refine Tw ?_
  refine bnd3 hb (fun r115 r116 r117 h118 hb => ?_)
  try dsimp only at hb
  refine pq_eq (G_cond_Eval_ok h118 s106.st) ?_
  refine Tw ?_
  refine bq_if hb rfl (fun c119 hb => ?_) (fun c119 hb => ?_)
  ·have X := And.intro c119 X
   refine Tw ?_
   refine bq_if hb rfl (fun c120 hb => ?_) (fun c120 hb => ?_)
   ·have X := And.intro c120 X
    refine Tw ?_
    refine bq_if hb rfl (fun c121 hb => ?_) (fun c121 hb => ?_)
    ·have X := And.intro c121 X
     refine Tw ?_
     refine bq_if hb rfl (fun c122 hb => ?_) (fun c122 hb => ?_)
     ·have X := And.intro c122 X
      refine Tw ?_
      refine bq_if hb rfl (fun c123 hb => ?_) (fun c123 hb => ?_)
      ·have X := And.intro c123 X
       refine Tw ?_
       refine bq_if hb rfl (fun c124 hb => ?_) (fun c124 hb => ?_)
       ·have X := And.intro c124 X
        refine Tw ?_
        refine bq_if hb rfl (fun c125 hb => ?_) (fun c125 hb => ?_)
        ·have X := And.intro c125 X
         refine Tw ?_
         refine bq_if hb rfl (fun c126 hb => ?_) (fun c126 hb => ?_)
         ·have X := And.intro c126 X
          refine Tw ?_
          refine bq_if hb rfl (fun c127 hb => ?_) (fun c127 hb => ?_)
          ·have hb := Option.some.inj hb
           subst hb
           have X := And.intro c127 X
           refine Tw ?_
           exact endI rfl
          ·have hb := Option.some.inj hb
           subst hb
           have X := And.intro c127 X
           refine Tw ?_
           exact endI rfl
         ·have hb := Option.some.inj hb
          subst hb
          have X := And.intro c126 X
          refine Tw ?_
          exact endI rfl
        ·have hb := Option.some.inj hb
         subst hb
         have X := And.intro c125 X
         refine Tw ?_
         exact endI rfl
       ·have hb := Option.some.inj hb
        subst hb
        have X := And.intro c124 X
        refine Tw ?_
        exact endI rfl
      ·have hb := Option.some.inj hb
       subst hb
       have X := And.intro c123 X
       refine Tw ?_
       exact endI rfl
     ·have hb := Option.some.inj hb
      subst hb
      have X := And.intro c122 X
      refine Tw ?_
      exact endI rfl
    ·have hb := Option.some.inj hb
     subst hb
     have X := And.intro c121 X
     refine Tw ?_
     exact endI rfl
   ·have hb := Option.some.inj hb
    subst hb
    have X := And.intro c120 X
    refine Tw ?_
    exact endI rfl
  ·have hb := Option.some.inj hb
   subst hb
   have X := And.intro c119 X
   refine Tw ?_
   exact endI rfl
def G_burinref05_parser_divide (p_2 : T_burinref05_parser) (op_9 : Bytes) (a_10 : T_burinref05_Value) (b_11 : T_burinref05_Value) (live_12 : Bool) : Option (T_burinref05_Value × T_burinref05_parser) :=
 (
  if a_10.U_ then
   some (true, true)
  else
   some (b_11.U_, false)
 ) >>= fun (u_32, v38) =>
 if (b_11.V_ == (0 : Int)) then
  if p_2.ok_ then
   some ((T_burinref05_Value.mk (0 : Int) u_32), (T_burinref05_parser.mk p_2.l_ p_2.at_ (!live_12)))
  else
   some ((T_burinref05_Value.mk (0 : Int) u_32), (T_burinref05_parser.mk p_2.l_ p_2.at_ false))
 else
  if u_32 then
   if (op_9 == ([47] : Bytes)) then
    quo .u64 a_10.V_ b_11.V_ >>= fun i61 =>
    some ((T_burinref05_Value.mk i61 true), p_2)
   else
    rem a_10.V_ b_11.V_ >>= fun i63 =>
    some ((T_burinref05_Value.mk i63 true), p_2)
  else
   if (b_11.V_ == (18446744073709551615 : Int)) then
    if (op_9 == ([47] : Bytes)) then
     some ((T_burinref05_Value.mk (IntKind.wrap .u64 (0 - a_10.V_)) false), p_2)
    else
     some ((T_burinref05_Value.mk (0 : Int) false), p_2)
   else
    if (op_9 == ([47] : Bytes)) then
     quo .i64 (IntKind.wrap .i64 a_10.V_) (IntKind.wrap .i64 b_11.V_) >>= fun i70 =>
     some ((T_burinref05_Value.mk (IntKind.wrap .u64 i70) false), p_2)
    else
     rem (IntKind.wrap .i64 a_10.V_) (IntKind.wrap .i64 b_11.V_) >>= fun i72 =>
     some ((T_burinref05_Value.mk (IntKind.wrap .u64 i72) false), p_2)
def G_burinref05_parser_shift (p_2 : T_burinref05_parser) (op_9 : Bytes) (a_10 : T_burinref05_Value) (b_11 : T_burinref05_Value) (live_12 : Bool) : Option (T_burinref05_Value × T_burinref05_parser) :=
 if (decide ((64 : Int) ≤ b_11.V_)) then
  if p_2.ok_ then
   some ((T_burinref05_Value.mk (0 : Int) a_10.U_), (T_burinref05_parser.mk p_2.l_ p_2.at_ (!live_12)))
  else
   some ((T_burinref05_Value.mk (0 : Int) a_10.U_), (T_burinref05_parser.mk p_2.l_ p_2.at_ false))
 else
  if (op_9 == ([60, 60] : Bytes)) then
   shl .u64 a_10.V_ b_11.V_ >>= fun i35 =>
   some ((T_burinref05_Value.mk i35 a_10.U_), p_2)
  else
   if a_10.U_ then
    shr .u64 a_10.V_ b_11.V_ >>= fun i38 =>
    some ((T_burinref05_Value.mk i38 true), p_2)
   else
    shr .i64 (IntKind.wrap .i64 a_10.V_) b_11.V_ >>= fun i40 =>
    some ((T_burinref05_Value.mk (IntKind.wrap .u64 i40) false), p_2)
def G_burinref05_truth (b_2 : Bool) : Option (T_burinref05_Value) :=
 if b_2 then
  some (T_burinref05_Value.mk (1 : Int) false)
 else
  some (T_burinref05_Value.mk (0 : Int) false)
def G_burinref05_compare (op_2 : Bytes) (a_3 : T_burinref05_Value) (b_4 : T_burinref05_Value) : Option (T_burinref05_Value) :=
 (
  if (!a_3.U_) then
   if (!b_4.U_) then
    some (decide ((IntKind.wrap .i64 a_3.V_) < (IntKind.wrap .i64 b_4.V_)))
   else
    some (decide (a_3.V_ < b_4.V_))
  else
   some (decide (a_3.V_ < b_4.V_))
 ) >>= fun less_17 =>
 if (op_2 == ([60] : Bytes)) then
  G_burinref05_truth less_17 >>= fun r34 =>
  some r34
 else
  if (op_2 == ([62] : Bytes)) then
   if (!less_17) then
    G_burinref05_truth (!(a_3.V_ == b_4.V_)) >>= fun r39 =>
    some r39
   else
    G_burinref05_truth false >>= fun r42 =>
    some r42
  else
   if (op_2 == ([60, 61] : Bytes)) then
    if less_17 then
     G_burinref05_truth true >>= fun r47 =>
     some r47
    else
     G_burinref05_truth (a_3.V_ == b_4.V_) >>= fun r50 =>
     some r50
   else
    if (op_2 == ([62, 61] : Bytes)) then
     G_burinref05_truth (!less_17) >>= fun r54 =>
     some r54
    else
     if (op_2 == ([61, 61] : Bytes)) then
      G_burinref05_truth (a_3.V_ == b_4.V_) >>= fun r58 =>
      some r58
     else
      G_burinref05_truth (!(a_3.V_ == b_4.V_)) >>= fun r61 =>
      some r61
def G_burinref05_parser_apply (p_2 : T_burinref05_parser) (op_9 : Bytes) (a_10 : T_burinref05_Value) (b_11 : T_burinref05_Value) (live_12 : Bool) : Option (T_burinref05_Value × T_burinref05_parser) :=
 (
  if a_10.U_ then
   some (true, true)
  else
   some (b_11.U_, false)
 ) >>= fun (u_32, v38) =>
 if (op_9 == ([42] : Bytes)) then
  some ((T_burinref05_Value.mk (IntKind.wrap .u64 (a_10.V_ * b_11.V_)) u_32), p_2)
 else
  (
   if (op_9 == ([47] : Bytes)) then
    some true
   else
    some (op_9 == ([37] : Bytes))
  ) >>= fun v59 =>
  if v59 then
   G_burinref05_parser_divide p_2 op_9 (T_burinref05_Value.mk a_10.V_ v38) b_11 live_12 >>= fun (r76, p77) =>
   some (r76, p77)
  else
   if (op_9 == ([43] : Bytes)) then
    some ((T_burinref05_Value.mk (IntKind.wrap .u64 (a_10.V_ + b_11.V_)) u_32), p_2)
   else
    if (op_9 == ([45] : Bytes)) then
     some ((T_burinref05_Value.mk (IntKind.wrap .u64 (a_10.V_ - b_11.V_)) u_32), p_2)
    else
     (
      if (op_9 == ([60, 60] : Bytes)) then
       some true
      else
       some (op_9 == ([62, 62] : Bytes))
     ) >>= fun v99 =>
     if v99 then
      G_burinref05_parser_shift p_2 op_9 (T_burinref05_Value.mk a_10.V_ v38) b_11 live_12 >>= fun (r116, p117) =>
      some (r116, p117)
     else
      if (op_9 == ([38] : Bytes)) then
       some ((T_burinref05_Value.mk (band .u64 a_10.V_ b_11.V_) u_32), p_2)
      else
       if (op_9 == ([94] : Bytes)) then
        some ((T_burinref05_Value.mk (bxor .u64 a_10.V_ b_11.V_) u_32), p_2)
       else
        if (op_9 == ([124] : Bytes)) then
         some ((T_burinref05_Value.mk (bor .u64 a_10.V_ b_11.V_) u_32), p_2)
        else
         G_burinref05_compare op_9 (T_burinref05_Value.mk a_10.V_ v38) b_11 >>= fun r137 =>
         some (r137, p_2)
end Go.Proofs.YtmngkcpobmhnoaaGreatDoor.Sim
