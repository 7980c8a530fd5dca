/- Printed functions, continued. -/
import Derived.Test.YtmngkcpobmhnoaaGreatDoorKG4
set_option linter.all false
set_option maxHeartbeats 4000000
set_option maxRecDepth 20000
namespace Go.Proofs.YtmngkcpobmhnoaaGreatDoor.Sim
theorem G_cond_eval_atom_b_ok {F : Rec_cond_eval_choice} (hF : Rec_cond_eval_choice.OK F) {h1 : Heap} {b4 : Nat} {p_2 : T_cond_eval} {counts_9 : Bool} {o5 : Own} {e6 : Nat} {M7 : List (List PV)} {r10 : T_cond_value} {r11 : T_cond_eval} (hx : G_cond_eval_atom_b F p_2 counts_9 = some (r10, r11)) (z16 : h1.box b4 = some [(.slice o5 e6 M7), (.bool p_2.bad_)]) (w17 : b4 < h1.n) (s8 : SlR 6 T_api_Tok.R o5 e6 p_2.l_ M7) : CallC E (.func 125 [] []) [(.ptr b4 0), (.bool counts_9)] h1 (fun v h18 => ∃ o12 e13 M14, v = (.agg [(.int .u64 r10.v_), (.bool r10.u_)]) ∧ h18.box b4 = some [(.slice o12 e13 M14), (.bool r11.bad_)] ∧ FrB [b4] h1 h18 ∧ SlR 6 T_api_Tok.R o12 e13 r11.l_ M14) := by
 refine callE_ok fn_cond_eval_atom rfl ?_
 have hb := hx
 dsimp only [G_cond_eval_atom_b] at hb
 have X := And.intro z16 (s8.len)
 refine Tw ?_
 refine bnd2 hb (fun r21 p22 h27 hb => ?_)
 try dsimp only at hb
 refine fq_mono1 (G_cond_eval_take_ok h27 Cw Cn s8) (fun o23 e24 M25 h28 S180 => ?_)
 have z31 := S180.1
 have F29 := S180.2.1
 have s26 := S180.2.2
 have q30 := F29.n
 try simp only [HN] at q30
 have F32 : FrB [b4] h1 h28 := FrB.call Cf F29 (by intro j hj; simp only [List.mem_cons, List.not_mem_nil, or_false] at hj; first | (subst hj; left; simp; done) | (right; omega))
 have X := And.intro z31 (And.intro F29.box1 (And.intro F29.loop (And.intro F29.bty (And.intro F32 (And.intro s26.len X)))))
 refine Tw ?_
 refine bq_if hb rfl (fun c34 hb => ?_) (fun c34 hb => ?_)
 ·have X := And.intro c34 X
  refine Tw ?_
  refine bnd2 hb (fun r35 p36 h41 hb => ?_)
  try dsimp only at hb
  refine fq_mono1 (hF.cond_eval_choice h41 Cw Cn s26) (fun o37 e38 M39 h42 S79 => ?_)
  have z45 := S79.1
  have F43 := S79.2.1
  have s40 := S79.2.2
  have q44 := F43.n
  try simp only [HN] at q44
  have F46 : FrB [b4] h1 h42 := FrB.call Cf F43 (by intro j hj; simp only [List.mem_cons, List.not_mem_nil, or_false] at hj; first | (subst hj; left; simp; done) | (right; omega))
  have X := And.intro z45 (And.intro F43.box1 (And.intro F43.loop (And.intro F43.bty (And.intro F46 (And.intro s40.len X)))))
  refine Tw ?_
  refine bnd2 hb (fun r51 p52 h57 hb => ?_)
  try dsimp only at hb
  refine fq_mono1 (G_cond_eval_take_ok h57 Cw Cn s40) (fun o53 e54 M55 h58 S78 => ?_)
  have z61 := S78.1
  have F59 := S78.2.1
  have s56 := S78.2.2
  have q60 := F59.n
  try simp only [HN] at q60
  have F62 : FrB [b4] h1 h58 := FrB.call Cf F59 (by intro j hj; simp only [List.mem_cons, List.not_mem_nil, or_false] at hj; first | (subst hj; left; simp; done) | (right; omega))
  have X := And.intro z61 (And.intro F59.box1 (And.intro F59.loop (And.intro F59.bty (And.intro F62 (And.intro s56.len X)))))
  refine Tw ?_
  refine bnd1 hb (fun p64 h69 hb => ?_)
  refine fq_mono1 (G_cond_eval_fails_ok h69 Cw Cn s56) (fun o65 e66 M67 h70 S77 => ?_)
  have z73 := S77.1
  have F71 := S77.2.1
  have s68 := S77.2.2
  have q72 := F71.n
  try simp only [HN] at q72
  have F74 : FrB [b4] h1 h70 := FrB.call Cf F71 (by intro j hj; simp only [List.mem_cons, List.not_mem_nil, or_false] at hj; first | (subst hj; left; simp; done) | (right; omega))
  have hb := Option.some.inj hb
  obtain ⟨e0, e1⟩ := Prod.mk.inj hb
  subst e0
  subst e1
  have X := And.intro z73 (And.intro F71.box1 (And.intro F71.loop (And.intro F71.bty (And.intro F74 (And.intro s68.len X)))))
  refine Tw ?_
  exact endHI ⟨o65, e66, M67, rfl, Cw, Cf, s68⟩
 ·have X := And.intro c34 X
  refine Tw ?_
  refine bnd1 hb (fun j96 hj hb => ?_)
  refine wq_joinF (fun Z => ∀ (f91 : Fr), Ex2.b () = j96 → (f91 0 = (.ptr b4 0) ∧ f91 4 = (.ptr h1.n 0)) → Z f91) (fun Z hX82 => ?_) ?_
  ·have hr81 := hb
   clear hb
   have hb := hj
   clear hj
   refine wq_def J_cond_eval_atom_1.eq_1 ?_
   refine Tw ?_
   refine Tw ?_
   refine bq_if hb rfl (fun c83 hb => ?_) (fun c83 hb => ?_)
   ·have hq := Option.some.inj hb
    subst hq
    try dsimp only at hr81
    have hb := hr81
    have hb := Option.some.inj hb
    obtain ⟨e0, e1⟩ := Prod.mk.inj hb
    subst e0
    subst e1
    have X := And.intro c83 X
    refine Tw ?_
    exact endHI ⟨o23, e24, M25, rfl, Cw, Cf, s26⟩
   ·have X := And.intro c83 X
    refine Tw ?_
    refine bq_if hb rfl (fun c87 hb => ?_) (fun c87 hb => ?_)
    ·have hq := Option.some.inj hb
     subst hq
     try dsimp only at hr81
     have hb := hr81
     have hb := Option.some.inj hb
     obtain ⟨e0, e1⟩ := Prod.mk.inj hb
     subst e0
     subst e1
     have X := And.intro c87 X
     refine Tw ?_
     exact endHI ⟨o23, e24, M25, rfl, Cw, Cf, s26⟩
    ·have hb := Option.some.inj hb
     subst hb
     have X := And.intro c87 X
     refine Tw ?_
     exact hX82 _ rfl Cf
  ·intro f91 ej Y93
   subst ej
   try dsimp only at hb
   have X := And.intro Y93 X
   refine Tw ?_
   refine vq_iaddr s26 hb (fun x99 cs100 hx99 hb hcs100 => ?_)
   cases (show cs100 = [(.int .i64 x99.Kind_), (.str x99.S_), (.str x99.File_), (.int .i64 x99.Line_), (.bool x99.Space_), (.bool x99.First_)] from hcs100)
   refine Tw ?_
   refine vq_subF s26 hb (fun t104 o105 M106 ht104 hb s107 => ?_)
   have X := And.intro s107.len X
   refine Tw ?_
   refine bq_if hb rfl (fun c109 hb => ?_) (fun c109 hb => ?_)
   ·have hb := Option.some.inj hb
    obtain ⟨e0, e1⟩ := Prod.mk.inj hb
    subst e0
    subst e1
    have X := And.intro c109 X
    refine Tw ?_
    exact endHI ⟨o105, e24, M106, rfl, Cw, Cf, s107⟩
   ·have X := And.intro c109 X
    refine Tw ?_
    refine bq_if hb rfl (fun c111 hb => ?_) (fun c111 hb => ?_)
    ·have X := And.intro c111 X
     refine Tw ?_
     refine bnd3 hb (fun r112 r113 r114 h115 hb => ?_)
     try dsimp only at hb
     refine pq_eq (G_cond_Number_ok h115) ?_
     refine Tw ?_
     refine bq_if hb rfl (fun c116 hb => ?_) (fun c116 hb => ?_)
     ·have X := And.intro c116 X
      refine Tw ?_
      refine bnd1 hb (fun p117 h122 hb => ?_)
      refine fq_mono1 (G_cond_eval_fails_ok h122 Cw Cn s107) (fun o118 e119 M120 h123 S130 => ?_)
      have z126 := S130.1
      have F124 := S130.2.1
      have s121 := S130.2.2
      have q125 := F124.n
      try simp only [HN] at q125
      have F127 : FrB [b4] h1 h123 := FrB.call Cf F124 (by intro j hj; simp only [List.mem_cons, List.not_mem_nil, or_false] at hj; first | (subst hj; left; simp; done) | (right; omega))
      have hb := Option.some.inj hb
      obtain ⟨e0, e1⟩ := Prod.mk.inj hb
      subst e0
      subst e1
      have X := And.intro z126 (And.intro F124.box1 (And.intro F124.loop (And.intro F124.bty (And.intro F127 (And.intro s121.len X)))))
      refine Tw ?_
      exact endHI ⟨o118, e119, M120, rfl, Cw, Cf, s121⟩
     ·have X := And.intro c116 X
      refine Tw ?_
      refine bq_if hb rfl (fun c131 hb => ?_) (fun c131 hb => ?_)
      ·have X := And.intro c131 X
       refine Tw ?_
       refine bnd1 hb (fun p132 h137 hb => ?_)
       refine fq_mono1 (G_cond_eval_fails_ok h137 Cw Cn s107) (fun o133 e134 M135 h138 S145 => ?_)
       have z141 := S145.1
       have F139 := S145.2.1
       have s136 := S145.2.2
       have q140 := F139.n
       try simp only [HN] at q140
       have F142 : FrB [b4] h1 h138 := FrB.call Cf F139 (by intro j hj; simp only [List.mem_cons, List.not_mem_nil, or_false] at hj; first | (subst hj; left; simp; done) | (right; omega))
       have hb := Option.some.inj hb
       obtain ⟨e0, e1⟩ := Prod.mk.inj hb
       subst e0
       subst e1
       have X := And.intro z141 (And.intro F139.box1 (And.intro F139.loop (And.intro F139.bty (And.intro F142 (And.intro s136.len X)))))
       refine Tw ?_
       exact endHI ⟨o133, e134, M135, rfl, Cw, Cf, s136⟩
      ·have X := And.intro c131 X
       refine Tw ?_
       refine bnd1 hb (fun p146 h151 hb => ?_)
       refine fq_mono1 (G_cond_eval_fails_ok h151 Cw Cn s107) (fun o147 e148 M149 h152 S159 => ?_)
       have z155 := S159.1
       have F153 := S159.2.1
       have s150 := S159.2.2
       have q154 := F153.n
       try simp only [HN] at q154
       have F156 : FrB [b4] h1 h152 := FrB.call Cf F153 (by intro j hj; simp only [List.mem_cons, List.not_mem_nil, or_false] at hj; first | (subst hj; left; simp; done) | (right; omega))
       have hb := Option.some.inj hb
       obtain ⟨e0, e1⟩ := Prod.mk.inj hb
       subst e0
       subst e1
       have X := And.intro z155 (And.intro F153.box1 (And.intro F153.loop (And.intro F153.bty (And.intro F156 (And.intro s150.len X)))))
       refine Tw ?_
       exact endHI ⟨o147, e148, M149, rfl, Cw, Cf, s150⟩
    ·have X := And.intro c111 X
     refine Tw ?_
     refine bq_if hb rfl (fun c160 hb => ?_) (fun c160 hb => ?_)
     ·have X := And.intro c160 X
      refine Tw ?_
      refine bnd2 hb (fun r161 r162 h163 hb => ?_)
      try dsimp only at hb
      refine pq_eq (G_cond_Char_ok h163) ?_
      refine Tw ?_
      refine bnd1 hb (fun p164 h169 hb => ?_)
      refine fq_mono1 (G_cond_eval_fails_ok h169 Cw Cn s107) (fun o165 e166 M167 h170 S177 => ?_)
      have z173 := S177.1
      have F171 := S177.2.1
      have s168 := S177.2.2
      have q172 := F171.n
      try simp only [HN] at q172
      have F174 : FrB [b4] h1 h170 := FrB.call Cf F171 (by intro j hj; simp only [List.mem_cons, List.not_mem_nil, or_false] at hj; first | (subst hj; left; simp; done) | (right; omega))
      have hb := Option.some.inj hb
      obtain ⟨e0, e1⟩ := Prod.mk.inj hb
      subst e0
      subst e1
      have X := And.intro z173 (And.intro F171.box1 (And.intro F171.loop (And.intro F171.bty (And.intro F174 (And.intro s168.len X)))))
      refine Tw ?_
      exact endHI ⟨o165, e166, M167, rfl, Cw, Cf, s168⟩
     ·have hb := Option.some.inj hb
      obtain ⟨e0, e1⟩ := Prod.mk.inj hb
      subst e0
      subst e1
      have X := And.intro c160 X
      refine Tw ?_
      exact endHI ⟨o105, e24, M106, rfl, Cw, Cf, s107⟩
def Rec_cond_eval_choice.lvl : Nat → Rec_cond_eval_choice
 | 0 => ⟨fun _ _ => none, fun _ _ _ => none, fun _ _ => none, fun _ _ => none⟩
 | j + 1 => ⟨G_cond_eval_choice_b (Rec_cond_eval_choice.lvl j), G_cond_eval_chain_b (Rec_cond_eval_choice.lvl j), G_cond_eval_unary_b (Rec_cond_eval_choice.lvl j), G_cond_eval_atom_b (Rec_cond_eval_choice.lvl j)⟩
theorem Rec_cond_eval_choice.lvl_ok : ∀ j, (Rec_cond_eval_choice.lvl j).OK
 | 0 => ⟨(fun hx _ _ _ => none_elim hx), (fun hx _ _ _ => none_elim hx), (fun hx _ _ _ => none_elim hx), (fun hx _ _ _ => none_elim hx)⟩
 | j + 1 => ⟨fun hx a0 a1 a2 => G_cond_eval_choice_b_ok (Rec_cond_eval_choice.lvl_ok j) hx a0 a1 a2, fun hx a0 a1 a2 => G_cond_eval_chain_b_ok (Rec_cond_eval_choice.lvl_ok j) hx a0 a1 a2, fun hx a0 a1 a2 => G_cond_eval_unary_b_ok (Rec_cond_eval_choice.lvl_ok j) hx a0 a1 a2, fun hx a0 a1 a2 => G_cond_eval_atom_b_ok (Rec_cond_eval_choice.lvl_ok j) hx a0 a1 a2⟩
def G_cond_eval_choice (k : Nat) : T_cond_eval → Bool → Option (T_cond_value × T_cond_eval) := (Rec_cond_eval_choice.lvl k).cond_eval_choice
theorem G_cond_eval_choice_ok {k : Nat} {h1 : Heap} {b4 : Nat} {p_2 : T_cond_eval} {counts_9 : Bool} {o5 : Own} {e6 : Nat} {M7 : List (List PV)} {r10 : T_cond_value} {r11 : T_cond_eval} (hx : G_cond_eval_choice k p_2 counts_9 = some (r10, r11)) (z16 : h1.box b4 = some [(.slice o5 e6 M7), (.bool p_2.bad_)]) (w17 : b4 < h1.n) (s8 : SlR 6 T_api_Tok.R o5 e6 p_2.l_ M7) : CallC E (.func 38 [] []) [(.ptr b4 0), (.bool counts_9)] h1 (fun v h18 => ∃ o12 e13 M14, v = (.agg [(.int .u64 r10.v_), (.bool r10.u_)]) ∧ h18.box b4 = some [(.slice o12 e13 M14), (.bool r11.bad_)] ∧ FrB [b4] h1 h18 ∧ SlR 6 T_api_Tok.R o12 e13 r11.l_ M14) := (Rec_cond_eval_choice.lvl_ok k).cond_eval_choice hx z16 w17 s8
def G_cond_Eval (k : Nat) (l_2 : List T_api_Tok) : Option (Int × Bool × Int) :=
 G_cond_eval_choice k (T_cond_eval.mk l_2 false) true >>= fun (r12, p13) =>
 if p13.bad_ then
  some ((0 : Int), false, (50 : Int))
 else
  if (decide ((0 : Int) < ((List.length p13.l_ : Nat) : Int))) then
   some ((0 : Int), false, (50 : Int))
  else
   some (r12.v_, r12.u_, (0 : Int))
theorem G_cond_Eval_ok {k : Nat} {l_2 : List T_api_Tok} {o3 : Own} {e4 : Nat} {M5 : List (List PV)} {r7 : Int} {r8 : Bool} {r9 : Int} (hx : G_cond_Eval k l_2 = some (r7, r8, r9)) (s6 : SlR 6 T_api_Tok.R o3 e4 l_2 M5) : PureE E 22 [(.slice o3 e4 M5)] (fun v => v = (.tuple [(.int .u64 r7), (.bool r8), (.int .i64 r9)])) := by
 refine pureE_ok fn_cond_Eval rfl ?_
 have hb := hx
 dsimp only [G_cond_Eval] at hb
 have X := s6.len
 refine Tw ?_
 refine bnd2 hb (fun r12 p13 h18 hb => ?_)
 try dsimp only at hb
 refine fq_mono1 (G_cond_eval_choice_ok h18 Cw Cn s6) (fun o14 e15 M16 h19 S29 => ?_)
 have z22 := S29.1
 have F20 := S29.2.1
 have s17 := S29.2.2
 have q21 := F20.n
 try simp only [HN] at q21
 have X := And.intro z22 (And.intro F20.box1 (And.intro F20.loop (And.intro F20.bty (And.intro s17.len X))))
 refine Tw ?_
 refine bq_if hb rfl (fun c27 hb => ?_) (fun c27 hb => ?_)
 ·have hb := Option.some.inj hb
  obtain ⟨e0, hb⟩ := Prod.mk.inj hb
  obtain ⟨e1, e2⟩ := Prod.mk.inj hb
  subst e0
  subst e1
  subst e2
  have X := And.intro c27 X
  refine Tw ?_
  exact endI rfl
 ·have X := And.intro c27 X
  refine Tw ?_
  refine bq_if hb rfl (fun c28 hb => ?_) (fun c28 hb => ?_)
  ·have hb := Option.some.inj hb
   obtain ⟨e0, hb⟩ := Prod.mk.inj hb
   obtain ⟨e1, e2⟩ := Prod.mk.inj hb
   subst e0
   subst e1
   subst e2
   have X := And.intro c28 X
   refine Tw ?_
   exact endI rfl
  ·have hb := Option.some.inj hb
   obtain ⟨e0, hb⟩ := Prod.mk.inj hb
   obtain ⟨e1, e2⟩ := Prod.mk.inj hb
   subst e0
   subst e1
   subst e2
   have X := And.intro c28 X
   refine Tw ?_
   exact endI rfl
structure Rec_burinref05_parser_choice where
 burinref05_parser_choice : T_burinref05_parser → Bool → Option (T_burinref05_Value × T_burinref05_parser)
 burinref05_parser_chain : T_burinref05_parser → Int → Bool → Option (T_burinref05_Value × T_burinref05_parser)
 burinref05_parser_front : T_burinref05_parser → Bool → Option (T_burinref05_Value × T_burinref05_parser)
 burinref05_parser_atom : T_burinref05_parser → Bool → Option (T_burinref05_Value × T_burinref05_parser)
structure Rec_burinref05_parser_choice.OK (F : Rec_burinref05_parser_choice) : Prop where
 burinref05_parser_choice : ∀ {h1 : Heap} {b4 : Nat} {p_2 : T_burinref05_parser} {live_9 : Bool} {o5 : Own} {e6 : Nat} {M7 : List (List PV)} {r10 : T_burinref05_Value} {r11 : T_burinref05_parser} (hx : F.burinref05_parser_choice p_2 live_9 = some (r10, r11)) (z16 : h1.box b4 = some [(.slice o5 e6 M7), (.int .i64 p_2.at_), (.bool p_2.ok_)]) (w17 : b4 < h1.n) (s8 : SlR 6 T_api_Tok.R o5 e6 p_2.l_ M7), CallC E (.func 39 [] []) [(.ptr b4 0), (.bool live_9)] h1 (fun v h18 => ∃ o12 e13 M14, v = (.agg [(.int .u64 r10.V_), (.bool r10.U_)]) ∧ h18.box b4 = some [(.slice o12 e13 M14), (.int .i64 r11.at_), (.bool r11.ok_)] ∧ FrB [b4] h1 h18 ∧ SlR 6 T_api_Tok.R o12 e13 r11.l_ M14)
 burinref05_parser_chain : ∀ {h1 : Heap} {b4 : Nat} {p_2 : T_burinref05_parser} {least_9 : Int} {live_10 : Bool} {o5 : Own} {e6 : Nat} {M7 : List (List PV)} {r11 : T_burinref05_Value} {r12 : T_burinref05_parser} (hx : F.burinref05_parser_chain p_2 least_9 live_10 = some (r11, r12)) (z17 : h1.box b4 = some [(.slice o5 e6 M7), (.int .i64 p_2.at_), (.bool p_2.ok_)]) (w18 : b4 < h1.n) (s8 : SlR 6 T_api_Tok.R o5 e6 p_2.l_ M7), CallC E (.func 63 [] []) [(.ptr b4 0), (.int .i64 least_9), (.bool live_10)] h1 (fun v h19 => ∃ o13 e14 M15, v = (.agg [(.int .u64 r11.V_), (.bool r11.U_)]) ∧ h19.box b4 = some [(.slice o13 e14 M15), (.int .i64 r12.at_), (.bool r12.ok_)] ∧ FrB [b4] h1 h19 ∧ SlR 6 T_api_Tok.R o13 e14 r12.l_ M15)
 burinref05_parser_front : ∀ {h1 : Heap} {b4 : Nat} {p_2 : T_burinref05_parser} {live_9 : Bool} {o5 : Own} {e6 : Nat} {M7 : List (List PV)} {r10 : T_burinref05_Value} {r11 : T_burinref05_parser} (hx : F.burinref05_parser_front p_2 live_9 = some (r10, r11)) (z16 : h1.box b4 = some [(.slice o5 e6 M7), (.int .i64 p_2.at_), (.bool p_2.ok_)]) (w17 : b4 < h1.n) (s8 : SlR 6 T_api_Tok.R o5 e6 p_2.l_ M7), CallC E (.func 91 [] []) [(.ptr b4 0), (.bool live_9)] h1 (fun v h18 => ∃ o12 e13 M14, v = (.agg [(.int .u64 r10.V_), (.bool r10.U_)]) ∧ h18.box b4 = some [(.slice o12 e13 M14), (.int .i64 r11.at_), (.bool r11.ok_)] ∧ FrB [b4] h1 h18 ∧ SlR 6 T_api_Tok.R o12 e13 r11.l_ M14)
 burinref05_parser_atom : ∀ {h1 : Heap} {b4 : Nat} {p_2 : T_burinref05_parser} {live_9 : Bool} {o5 : Own} {e6 : Nat} {M7 : List (List PV)} {r10 : T_burinref05_Value} {r11 : T_burinref05_parser} (hx : F.burinref05_parser_atom p_2 live_9 = some (r10, r11)) (z16 : h1.box b4 = some [(.slice o5 e6 M7), (.int .i64 p_2.at_), (.bool p_2.ok_)]) (w17 : b4 < h1.n) (s8 : SlR 6 T_api_Tok.R o5 e6 p_2.l_ M7), CallC E (.func 129 [] []) [(.ptr b4 0), (.bool live_9)] h1 (fun v h18 => ∃ o12 e13 M14, v = (.agg [(.int .u64 r10.V_), (.bool r10.U_)]) ∧ h18.box b4 = some [(.slice o12 e13 M14), (.int .i64 r11.at_), (.bool r11.ok_)] ∧ FrB [b4] h1 h18 ∧ SlR 6 T_api_Tok.R o12 e13 r11.l_ M14)
def G_burinref05_parser_sees (p_2 : T_burinref05_parser) (s_9 : Bytes) : Option (Bool × T_burinref05_parser) :=
 if p_2.ok_ then
  if (decide (p_2.at_ < ((List.length p_2.l_ : Nat) : Int))) then
   idx p_2.l_ p_2.at_ >>= fun x21 =>
   if (x21.Kind_ == (5 : Int)) then
    idx p_2.l_ p_2.at_ >>= fun x24 =>
    some ((x24.S_ == s_9), (T_burinref05_parser.mk p_2.l_ p_2.at_ true))
   else
    some (false, (T_burinref05_parser.mk p_2.l_ p_2.at_ true))
  else
   some (false, (T_burinref05_parser.mk p_2.l_ p_2.at_ true))
 else
  some (false, (T_burinref05_parser.mk p_2.l_ p_2.at_ false))
theorem G_burinref05_parser_sees_ok {h1 : Heap} {b4 : Nat} {p_2 : T_burinref05_parser} {s_9 : Bytes} {o5 : Own} {e6 : Nat} {M7 : List (List PV)} {r10 : Bool} {r11 : T_burinref05_parser} (hx : G_burinref05_parser_sees p_2 s_9 = some (r10, r11)) (z16 : h1.box b4 = some [(.slice o5 e6 M7), (.int .i64 p_2.at_), (.bool p_2.ok_)]) (w17 : b4 < h1.n) (s8 : SlR 6 T_api_Tok.R o5 e6 p_2.l_ M7) : CallC E (.func 95 [] []) [(.ptr b4 0), (.str s_9)] h1 (fun v h18 => ∃ o12 e13 M14, v = (.bool r10) ∧ h18.box b4 = some [(.slice o12 e13 M14), (.int .i64 r11.at_), (.bool r11.ok_)] ∧ FrB [b4] h1 h18 ∧ SlR 6 T_api_Tok.R o12 e13 r11.l_ M14) := by
 refine callE_ok fn_burinref05_parser_sees rfl ?_
 have hb := hx
 dsimp only [G_burinref05_parser_sees] at hb
 have X := And.intro z16 (s8.len)
 refine Tw ?_
 refine bq_if hb rfl (fun c19 hb => ?_) (fun c19 hb => ?_)
 ·have X := And.intro c19 X
  refine Tw ?_
  refine bq_if hb rfl (fun c20 hb => ?_) (fun c20 hb => ?_)
  ·have X := And.intro c20 X
   refine Tw ?_
   refine vq_iaddr s8 hb (fun x21 cs22 hx21 hb hcs22 => ?_)
   cases (show cs22 = [(.int .i64 x21.Kind_), (.str x21.S_), (.str x21.File_), (.int .i64 x21.Line_), (.bool x21.Space_), (.bool x21.First_)] from hcs22)
   refine Tw ?_
   refine bq_if hb rfl (fun c23 hb => ?_) (fun c23 hb => ?_)
   ·have X := And.intro c23 X
    refine Tw ?_
    refine vq_iaddr s8 hb (fun x24 cs25 hx24 hb hcs25 => ?_)
    cases (show cs25 = [(.int .i64 x24.Kind_), (.str x24.S_), (.str x24.File_), (.int .i64 x24.Line_), (.bool x24.Space_), (.bool x24.First_)] from hcs25)
    have hb := Option.some.inj hb
    obtain ⟨e0, e1⟩ := Prod.mk.inj hb
    subst e0
    subst e1
    refine Tw ?_
    exact endHI ⟨o5, e6, M7, rfl, Cw, Cf, s8⟩
   ·have hb := Option.some.inj hb
    obtain ⟨e0, e1⟩ := Prod.mk.inj hb
    subst e0
    subst e1
    have X := And.intro c23 X
    refine Tw ?_
    exact endHI ⟨o5, e6, M7, rfl, Cw, Cf, s8⟩
  ·have hb := Option.some.inj hb
   obtain ⟨e0, e1⟩ := Prod.mk.inj hb
   subst e0
   subst e1
   have X := And.intro c20 X
   refine Tw ?_
   exact endHI ⟨o5, e6, M7, rfl, Cw, Cf, s8⟩
 ·have hb := Option.some.inj hb
  obtain ⟨e0, e1⟩ := Prod.mk.inj hb
  subst e0
  subst e1
  have X := And.intro c19 X
  refine Tw ?_
  exact endHI ⟨o5, e6, M7, rfl, Cw, Cf, s8⟩
def G_burinref05_parser_takes (p_2 : T_burinref05_parser) (s_9 : Bytes) : Option (Bool × T_burinref05_parser) :=
 G_burinref05_parser_sees p_2 s_9 >>= fun (r19, p20) =>
 if r19 then
  some (true, (T_burinref05_parser.mk p20.l_ (IntKind.wrap .i64 (p20.at_ + (1 : Int))) p20.ok_))
 else
  some (false, p20)
theorem G_burinref05_parser_takes_ok {h1 : Heap} {b4 : Nat} {p_2 : T_burinref05_parser} {s_9 : Bytes} {o5 : Own} {e6 : Nat} {M7 : List (List PV)} {r10 : Bool} {r11 : T_burinref05_parser} (hx : G_burinref05_parser_takes p_2 s_9 = some (r10, r11)) (z16 : h1.box b4 = some [(.slice o5 e6 M7), (.int .i64 p_2.at_), (.bool p_2.ok_)]) (w17 : b4 < h1.n) (s8 : SlR 6 T_api_Tok.R o5 e6 p_2.l_ M7) : CallC E (.func 64 [] []) [(.ptr b4 0), (.str s_9)] h1 (fun v h18 => ∃ o12 e13 M14, v = (.bool r10) ∧ h18.box b4 = some [(.slice o12 e13 M14), (.int .i64 r11.at_), (.bool r11.ok_)] ∧ FrB [b4] h1 h18 ∧ SlR 6 T_api_Tok.R o12 e13 r11.l_ M14) := by
 refine callE_ok fn_burinref05_parser_takes rfl ?_
 have hb := hx
 dsimp only [G_burinref05_parser_takes] at hb
 have X := And.intro z16 (s8.len)
 refine Tw ?_
 refine bnd2 hb (fun r19 p20 h25 hb => ?_)
 try dsimp only at hb
 refine fq_mono1 (G_burinref05_parser_sees_ok h25 Cw Cn s8) (fun o21 e22 M23 h26 S34 => ?_)
 have z29 := S34.1
 have F27 := S34.2.1
 have s24 := S34.2.2
 have q28 := F27.n
 try simp only [HN] at q28
 have F30 : FrB [b4] h1 h26 := FrB.call Cf F27 (by intro j hj; simp only [List.mem_cons, List.not_mem_nil, or_false] at hj; first | (subst hj; left; simp; done) | (right; omega))
 have X := And.intro z29 (And.intro F27.box1 (And.intro F27.loop (And.intro F27.bty (And.intro F30 (And.intro s24.len X)))))
 refine Tw ?_
 refine bq_if hb rfl (fun c32 hb => ?_) (fun c32 hb => ?_)
 ·have hb := Option.some.inj hb
  obtain ⟨e0, e1⟩ := Prod.mk.inj hb
  subst e0
  subst e1
  have X := And.intro c32 X
  refine Tw ?_
  exact endHI ⟨o21, e22, M23, rfl, Cw, Cf, s24⟩
 ·have hb := Option.some.inj hb
  obtain ⟨e0, e1⟩ := Prod.mk.inj hb
  subst e0
  subst e1
  have X := And.intro c32 X
  refine Tw ?_
  exact endHI ⟨o21, e22, M23, rfl, Cw, Cf, s24⟩
def G_burinref05_parser_choice_b (F : Rec_burinref05_parser_choice) (p_2 : T_burinref05_parser) (live_9 : Bool) : Option (T_burinref05_Value × T_burinref05_parser) :=
 F.burinref05_parser_chain p_2 (1 : Int) live_9 >>= fun (r21, p22) =>
 G_burinref05_parser_takes p22 ([63] : Bytes) >>= fun (r37, p38) =>
 if (!r37) then
  some (r21, p38)
 else
  (
   if live_9 then
    F.burinref05_parser_choice p38 (!(r21.V_ == (0 : Int))) >>= fun (r56, p57) =>
    some (true, p57.l_, p57.at_, p57.ok_, r56.V_, r56.U_)
   else
    F.burinref05_parser_choice p38 false >>= fun (r73, p74) =>
    some (false, p74.l_, p74.at_, p74.ok_, r73.V_, r73.U_)
  ) >>= fun (live_89, v95, v100, v101, v103, v104) =>
  G_burinref05_parser_takes (T_burinref05_parser.mk v95 v100 v101) ([58] : Bytes) >>= fun (r117, p118) =>
  (
   if p118.ok_ then
    some r117
   else
    some false
  ) >>= fun v141 =>
  (
   if live_89 then
    F.burinref05_parser_choice (T_burinref05_parser.mk p118.l_ p118.at_ v141) (r21.V_ == (0 : Int)) >>= fun (r158, p159) =>
    some (p159.l_, p159.at_, p159.ok_, r158.V_, r158.U_)
   else
    F.burinref05_parser_choice (T_burinref05_parser.mk p118.l_ p118.at_ v141) false >>= fun (r175, p176) =>
    some (p176.l_, p176.at_, p176.ok_, r175.V_, r175.U_)
  ) >>= fun (v196, v201, v202, v204, v205) =>
  if (!(r21.V_ == (0 : Int))) then
   if v104 then
    some ((T_burinref05_Value.mk v103 true), (T_burinref05_parser.mk v196 v201 v202))
   else
    some ((T_burinref05_Value.mk v103 v205), (T_burinref05_parser.mk v196 v201 v202))
  else
   if v104 then
    some ((T_burinref05_Value.mk v204 true), (T_burinref05_parser.mk v196 v201 v202))
   else
    some ((T_burinref05_Value.mk v204 v205), (T_burinref05_parser.mk v196 v201 v202))
theorem G_burinref05_parser_choice_b_ok {F : Rec_burinref05_parser_choice} (hF : Rec_burinref05_parser_choice.OK F) {h1 : Heap} {b4 : Nat} {p_2 : T_burinref05_parser} {live_9 : Bool} {o5 : Own} {e6 : Nat} {M7 : List (List PV)} {r10 : T_burinref05_Value} {r11 : T_burinref05_parser} (hx : G_burinref05_parser_choice_b F p_2 live_9 = some (r10, r11)) (z16 : h1.box b4 = some [(.slice o5 e6 M7), (.int .i64 p_2.at_), (.bool p_2.ok_)]) (w17 : b4 < h1.n) (s8 : SlR 6 T_api_Tok.R o5 e6 p_2.l_ M7) : CallC E (.func 39 [] []) [(.ptr b4 0), (.bool live_9)] h1 (fun v h18 => ∃ o12 e13 M14, v = (.agg [(.int .u64 r10.V_), (.bool r10.U_)]) ∧ h18.box b4 = some [(.slice o12 e13 M14), (.int .i64 r11.at_), (.bool r11.ok_)] ∧ FrB [b4] h1 h18 ∧ SlR 6 T_api_Tok.R o12 e13 r11.l_ M14) := by
 refine callE_ok fn_burinref05_parser_choice rfl ?_
 have hb := hx
 dsimp only [G_burinref05_parser_choice_b] at hb
 have X := And.intro z16 (s8.len)
 refine Tw ?_
 refine bnd2 hb (fun r21 p22 h27 hb => ?_)
 try dsimp only at hb
 refine fq_mono1 (hF.burinref05_parser_chain h27 Cw Cn s8) (fun o23 e24 M25 h28 S235 => ?_)
 have z31 := S235.1
 have F29 := S235.2.1
 have s26 := S235.2.2
 have q30 := F29.n
 try simp only [HN] at q30
 have F32 : FrB [b4] h1 h28 := FrB.call Cf F29 (by intro j hj; simp only [List.mem_cons, List.not_mem_nil, or_false] at hj; first | (subst hj; left; simp; done) | (right; omega))
 have X := And.intro z31 (And.intro F29.box1 (And.intro F29.loop (And.intro F29.bty (And.intro F32 (And.intro s26.len X)))))
 refine Tw ?_
 refine bnd2 hb (fun r37 p38 h43 hb => ?_)
 try dsimp only at hb
 refine fq_mono1 (G_burinref05_parser_takes_ok h43 Cw Cn s26) (fun o39 e40 M41 h44 S234 => ?_)
 have z47 := S234.1
 have F45 := S234.2.1
 have s42 := S234.2.2
 have q46 := F45.n
 try simp only [HN] at q46
 have F48 : FrB [b4] h1 h44 := FrB.call Cf F45 (by intro j hj; simp only [List.mem_cons, List.not_mem_nil, or_false] at hj; first | (subst hj; left; simp; done) | (right; omega))
 have X := And.intro z47 (And.intro F45.box1 (And.intro F45.loop (And.intro F45.bty (And.intro F48 (And.intro s42.len X)))))
 refine Tw ?_
 refine bq_if hb rfl (fun c50 hb => ?_) (fun c50 hb => ?_)
 ·have hb := Option.some.inj hb
  obtain ⟨e0, e1⟩ := Prod.mk.inj hb
  subst e0
  subst e1
  have X := And.intro c50 X
  refine Tw ?_
  exact endHI ⟨o39, e40, M41, rfl, Cw, Cf, s42⟩
 ·have X := And.intro c50 X
  refine Tw ?_
  refine bnd1 hb (fun j106 hj hb => ?_)
  refine wq_join (fun Z => ∀ (f90 : Fr) (h91 : Heap) (live_89 : Bool) (v95 : List T_api_Tok) (v100 : Int) (v101 : Bool) (v103 : Int) (v104 : Bool) (o96 : Own) (e97 : Nat) (M98 : List (List PV)) (b102 : Nat), (live_89, v95, v100, v101, v103, v104) = j106 → (f90 0 = (.ptr b4 0) ∧ f90 1 = (.bool live_89) ∧ f90 4 = (.ptr h1.n 0) ∧ f90 5 = (.ptr h28.n 0) ∧ f90 6 = (.ptr b102 0) ∧ h91.box b4 = some [(.slice o96 e97 M98), (.int .i64 v100), (.bool v101)] ∧ h91.box h1.n = some [(.int .u64 (0 : Int)), (.bool false)] ∧ h91.box h28.n = some [(.int .u64 r21.V_), (.bool r21.U_)] ∧ h91.box b102 = some [(.int .u64 v103), (.bool v104)] ∧ FrB [b4] h1 h91) → (b4 < h1.n ∧ h1.n ≤ h1.n ∧ h1.n < h28.n ∧ h28.n < b102 ∧ b102 < h91.n) → SlR 6 T_api_Tok.R o96 e97 v95 M98 → Z f90 h91) (fun Z hX54 => ?_) ?_
  ·have hr53 := hb
   clear hb
   have hb := hj
   clear hj
   refine wq_def J_burinref05_parser_choice_1.eq_1 ?_
   refine Tw ?_
   refine Tw ?_
   refine bq_if hb rfl (fun c55 hb => ?_) (fun c55 hb => ?_)
   ·have X := And.intro c55 X
    refine Tw ?_
    refine bnd2 hb (fun r56 p57 h62 hb => ?_)
    try dsimp only at hb
    refine fq_mono1 (hF.burinref05_parser_choice h62 Cw Cn s42) (fun o58 e59 M60 h63 S72 => ?_)
    have z66 := S72.1
    have F64 := S72.2.1
    have s61 := S72.2.2
    have q65 := F64.n
    try simp only [HN] at q65
    have F67 : FrB [b4] h1 h63 := FrB.call Cf F64 (by intro j hj; simp only [List.mem_cons, List.not_mem_nil, or_false] at hj; first | (subst hj; left; simp; done) | (right; omega))
    have hb := Option.some.inj hb
    subst hb
    have X := And.intro z66 (And.intro F64.box1 (And.intro F64.loop (And.intro F64.bty (And.intro F67 (And.intro s61.len X)))))
    refine Tw ?_
    exact hX54 _ _ true p57.l_ p57.at_ p57.ok_ r56.V_ r56.U_ o58 e59 M60 h63.n rfl Cf Cn s61
   ·have X := And.intro c55 X
    refine Tw ?_
    refine bnd2 hb (fun r73 p74 h79 hb => ?_)
    try dsimp only at hb
    refine fq_mono1 (hF.burinref05_parser_choice h79 Cw Cn s42) (fun o75 e76 M77 h80 S88 => ?_)
    have z83 := S88.1
    have F81 := S88.2.1
    have s78 := S88.2.2
    have q82 := F81.n
    try simp only [HN] at q82
    have F84 : FrB [b4] h1 h80 := FrB.call Cf F81 (by intro j hj; simp only [List.mem_cons, List.not_mem_nil, or_false] at hj; first | (subst hj; left; simp; done) | (right; omega))
    have hb := Option.some.inj hb
    subst hb
    have X := And.intro z83 (And.intro F81.box1 (And.intro F81.loop (And.intro F81.bty (And.intro F84 (And.intro s78.len X)))))
    refine Tw ?_
    exact hX54 _ _ false p74.l_ p74.at_ p74.ok_ r73.V_ r73.U_ o75 e76 M77 h80.n rfl Cf Cn s78
  ·intro f90 h91 live_89 v95 v100 v101 v103 v104 o96 e97 M98 b102 ej Y92 Y94 s99
   subst ej
   try dsimp only at hb
   have X := And.intro Y92 (And.intro s99.len X)
   refine Tw ?_
   refine bnd2 hb (fun r117 p118 h123 hb => ?_)
   try dsimp only at hb
   refine fq_mono1 (G_burinref05_parser_takes_ok h123 Cw Cn s99) (fun o119 e120 M121 h124 S233 => ?_)
   have z127 := S233.1
   have F125 := S233.2.1
   have s122 := S233.2.2
   have q126 := F125.n
   try simp only [HN] at q126
   have F128 : FrB [b4] h1 h124 := FrB.call Cf F125 (by intro j hj; simp only [List.mem_cons, List.not_mem_nil, or_false] at hj; first | (subst hj; left; simp; done) | (right; omega))
   have X := And.intro z127 (And.intro F125.box1 (And.intro F125.loop (And.intro F125.bty (And.intro F128 (And.intro s122.len X)))))
   refine Tw ?_
   refine bnd1 hb (fun j143 hj hb => ?_)
   refine wq_join (fun Z => ∀ (f136 : Fr) (h137 : Heap) (v141 : Bool), v141 = j143 → (f136 0 = (.ptr b4 0) ∧ f136 1 = (.bool live_89) ∧ f136 4 = (.ptr h1.n 0) ∧ f136 5 = (.ptr h28.n 0) ∧ f136 6 = (.ptr b102 0) ∧ h137.box b4 = some [(.slice o119 e120 M121), (.int .i64 p118.at_), (.bool v141)] ∧ h137.box h1.n = some [(.int .u64 (0 : Int)), (.bool false)] ∧ h137.box h28.n = some [(.int .u64 r21.V_), (.bool r21.U_)] ∧ h137.box b102 = some [(.int .u64 v103), (.bool v104)] ∧ FrB [b4] h1 h137) → (b4 < h1.n ∧ h1.n ≤ h1.n ∧ h1.n < h28.n ∧ h28.n < b102 ∧ b102 < h137.n) → Z f136 h137) (fun Z hX132 => ?_) ?_
   ·have hr131 := hb
    clear hb
    have hb := hj
    clear hj
    refine wq_def J_burinref05_parser_choice_2.eq_1 ?_
    refine Tw ?_
    refine Tw ?_
    refine bq_if hb rfl (fun c133 hb => ?_) (fun c133 hb => ?_)
    ·have hb := Option.some.inj hb
     subst hb
     have X := And.intro c133 X
     refine Tw ?_
     exact hX132 _ _ r117 rfl Cf Cn
    ·have hb := Option.some.inj hb
     subst hb
     have X := And.intro c133 X
     refine Tw ?_
     exact hX132 _ _ false rfl Cf Cn
   ·intro f136 h137 v141 ej Y138 Y140
    subst ej
    try dsimp only at hb
    have X := And.intro Y138 (And.intro s8.len (And.intro s26.len (And.intro s42.len (And.intro c50 (And.intro s99.len (s122.len))))))
    refine Tw ?_
    refine bnd1 hb (fun j207 hj hb => ?_)
    refine wq_join (fun Z => ∀ (f191 : Fr) (h192 : Heap) (v196 : List T_api_Tok) (v201 : Int) (v202 : Bool) (v204 : Int) (v205 : Bool) (o197 : Own) (e198 : Nat) (M199 : List (List PV)) (b203 : Nat), (v196, v201, v202, v204, v205) = j207 → (f191 4 = (.ptr h1.n 0) ∧ f191 5 = (.ptr h28.n 0) ∧ f191 6 = (.ptr b102 0) ∧ f191 8 = (.ptr b203 0) ∧ h192.box b4 = some [(.slice o197 e198 M199), (.int .i64 v201), (.bool v202)] ∧ h192.box h1.n = some [(.int .u64 (0 : Int)), (.bool false)] ∧ h192.box h28.n = some [(.int .u64 r21.V_), (.bool r21.U_)] ∧ h192.box b102 = some [(.int .u64 v103), (.bool v104)] ∧ h192.box b203 = some [(.int .u64 v204), (.bool v205)] ∧ FrB [b4] h1 h192) → (b4 < h1.n ∧ h1.n ≤ h1.n ∧ h1.n < h28.n ∧ h28.n < b102 ∧ b102 < b203 ∧ b203 < h192.n) → SlR 6 T_api_Tok.R o197 e198 v196 M199 → Z f191 h192) (fun Z hX156 => ?_) ?_
    ·have hr155 := hb
     clear hb
     have hb := hj
     clear hj
     refine wq_def J_burinref05_parser_choice_3.eq_1 ?_
     refine Tw ?_
     refine Tw ?_
     refine bq_if hb rfl (fun c157 hb => ?_) (fun c157 hb => ?_)
     ·have X := And.intro c157 X
      refine Tw ?_
      refine bnd2 hb (fun r158 p159 h164 hb => ?_)
      try dsimp only at hb
      refine fq_mono1 (hF.burinref05_parser_choice h164 Cw Cn s122) (fun o160 e161 M162 h165 S174 => ?_)
      have z168 := S174.1
      have F166 := S174.2.1
      have s163 := S174.2.2
      have q167 := F166.n
      try simp only [HN] at q167
      have F169 : FrB [b4] h1 h165 := FrB.call Cf F166 (by intro j hj; simp only [List.mem_cons, List.not_mem_nil, or_false] at hj; first | (subst hj; left; simp; done) | (right; omega))
      have hb := Option.some.inj hb
      subst hb
      have X := And.intro z168 (And.intro F166.box1 (And.intro F166.loop (And.intro F166.bty (And.intro F169 (And.intro s163.len X)))))
      refine Tw ?_
      exact hX156 _ _ p159.l_ p159.at_ p159.ok_ r158.V_ r158.U_ o160 e161 M162 h165.n rfl Cf Cn s163
     ·have X := And.intro c157 X
      refine Tw ?_
      refine bnd2 hb (fun r175 p176 h181 hb => ?_)
      try dsimp only at hb
      refine fq_mono1 (hF.burinref05_parser_choice h181 Cw Cn s122) (fun o177 e178 M179 h182 S190 => ?_)
      have z185 := S190.1
      have F183 := S190.2.1
      have s180 := S190.2.2
      have q184 := F183.n
      try simp only [HN] at q184
      have F186 : FrB [b4] h1 h182 := FrB.call Cf F183 (by intro j hj; simp only [List.mem_cons, List.not_mem_nil, or_false] at hj; first | (subst hj; left; simp; done) | (right; omega))
      have hb := Option.some.inj hb
      subst hb
      have X := And.intro z185 (And.intro F183.box1 (And.intro F183.loop (And.intro F183.bty (And.intro F186 (And.intro s180.len X)))))
      refine Tw ?_
      exact hX156 _ _ p176.l_ p176.at_ p176.ok_ r175.V_ r175.U_ o177 e178 M179 h182.n rfl Cf Cn s180
    ·intro f191 h192 v196 v201 v202 v204 v205 o197 e198 M199 b203 ej Y193 Y195 s200
     subst ej
     try dsimp only at hb
     have X := And.intro Y193 (And.intro s200.len X)
     refine Tw ?_
     refine bq_if hb rfl (fun c221 hb => ?_) (fun c221 hb => ?_)
     ·have X := And.intro c221 X
      refine Tw ?_
      refine bq_if hb rfl (fun c223 hb => ?_) (fun c223 hb => ?_)
      ·have hb := Option.some.inj hb
       obtain ⟨e0, e1⟩ := Prod.mk.inj hb
       subst e0
       subst e1
       have X := And.intro c223 X
       refine Tw ?_
       exact endHI ⟨o197, e198, M199, rfl, Cw, Cf, s200⟩
      ·have hb := Option.some.inj hb
       obtain ⟨e0, e1⟩ := Prod.mk.inj hb
       subst e0
       subst e1
       have X := And.intro c223 X
       refine Tw ?_
       exact endHI ⟨o197, e198, M199, rfl, Cw, Cf, s200⟩
     ·have X := And.intro c221 X
      refine Tw ?_
      refine bq_if hb rfl (fun c228 hb => ?_) (fun c228 hb => ?_)
      ·have hb := Option.some.inj hb
       obtain ⟨e0, e1⟩ := Prod.mk.inj hb
       subst e0
       subst e1
       have X := And.intro c228 X
       refine Tw ?_
       exact endHI ⟨o197, e198, M199, rfl, Cw, Cf, s200⟩
      ·have hb := Option.some.inj hb
       obtain ⟨e0, e1⟩ := Prod.mk.inj hb
       subst e0
       subst e1
       have X := And.intro c228 X
       refine Tw ?_
       exact endHI ⟨o197, e198, M199, rfl, Cw, Cf, s200⟩
def G_burinref05_level (s_2 : Bytes) : Option (Int) :=
 (
  if (s_2 == ([42] : Bytes)) then
   some true
  else
   if (s_2 == ([47] : Bytes)) then
    some true
   else
    some (s_2 == ([37] : Bytes))
 ) >>= fun v9 =>
 if v9 then
  some (10 : Int)
 else
  (
   if (s_2 == ([43] : Bytes)) then
    some true
   else
    some (s_2 == ([45] : Bytes))
  ) >>= fun v23 =>
  if v23 then
   some (9 : Int)
  else
   (
    if (s_2 == ([60, 60] : Bytes)) then
     some true
    else
     some (s_2 == ([62, 62] : Bytes))
   ) >>= fun v37 =>
   if v37 then
    some (8 : Int)
   else
    (
     if (s_2 == ([60] : Bytes)) then
      some true
     else
      if (s_2 == ([62] : Bytes)) then
       some true
      else
       if (s_2 == ([60, 61] : Bytes)) then
        some true
       else
        some (s_2 == ([62, 61] : Bytes))
    ) >>= fun v53 =>
    if v53 then
     some (7 : Int)
    else
     (
      if (s_2 == ([61, 61] : Bytes)) then
       some true
      else
       some (s_2 == ([33, 61] : Bytes))
     ) >>= fun v67 =>
     if v67 then
      some (6 : Int)
     else
      if (s_2 == ([38] : Bytes)) then
       some (5 : Int)
      else
       if (s_2 == ([94] : Bytes)) then
        some (4 : Int)
       else
        if (s_2 == ([124] : Bytes)) then
         some (3 : Int)
        else
         if (s_2 == ([38, 38] : Bytes)) then
          some (2 : Int)
         else
          if (s_2 == ([124, 124] : Bytes)) then
           some (1 : Int)
          else
           some (0 : Int)
theorem G_burinref05_level_ok {s_2 : Bytes} {r3 : Int} (hx : G_burinref05_level s_2 = some r3) : PureE E 92 [(.str s_2)] (fun v => v = (.int .i64 r3)) := by
 refine pureE_ok fn_burinref05_level rfl ?_
 have hb := hx
 dsimp only [G_burinref05_level] at hb
 have X := True.intro
 refine Tw ?_
 refine bnd1 hb (fun j15 hj hb => ?_)
 refine wq_joinF (fun Z => ∀ (f10 : Fr) (v9 : Bool), v9 = j15 → (f10 3 = (.str s_2) ∧ f10 4 = (.bool v9)) → Z f10) (fun Z hX6 => ?_) ?_
 ·have hr5 := hb
  clear hb
  have hb := hj
  clear hj
  refine wq_def J_burinref05_level_1.eq_1 ?_
  refine Tw ?_
  refine Tw ?_
  refine bq_if hb rfl (fun c7 hb => ?_) (fun c7 hb => ?_)
  ·have hb := Option.some.inj hb
   subst hb
   have X := And.intro c7 X
   refine Tw ?_
   exact hX6 _ true rfl Cw
  ·have X := And.intro c7 X
   refine Tw ?_
   refine bq_if hb rfl (fun c8 hb => ?_) (fun c8 hb => ?_)
   ·have hb := Option.some.inj hb
    subst hb
    have X := And.intro c8 X
    refine Tw ?_
    exact hX6 _ true rfl Cw
   ·have hb := Option.some.inj hb
    subst hb
    have X := And.intro c8 X
    refine Tw ?_
    exact hX6 _ (s_2 == ([37] : Bytes)) rfl Cw
 ·intro f10 v9 ej Y12
  subst ej
  try dsimp only at hb
  have X := And.intro Y12 X
  refine Tw ?_
  refine bq_if hb rfl (fun c18 hb => ?_) (fun c18 hb => ?_)
  ·have hb := Option.some.inj hb
   subst hb
   have X := And.intro c18 X
   refine Tw ?_
   exact endI rfl
  ·have X := And.intro c18 X
   refine Tw ?_
   refine bnd1 hb (fun j29 hj hb => ?_)
   refine wq_joinF (fun Z => ∀ (f24 : Fr) (v23 : Bool), v23 = j29 → (f24 3 = (.str s_2) ∧ f24 8 = (.bool v23)) → Z f24) (fun Z hX21 => ?_) ?_
   ·have hr20 := hb
    clear hb
    have hb := hj
    clear hj
    refine wq_def J_burinref05_level_2.eq_1 ?_
    refine Tw ?_
    refine Tw ?_
    refine bq_if hb rfl (fun c22 hb => ?_) (fun c22 hb => ?_)
    ·have hb := Option.some.inj hb
     subst hb
     have X := And.intro c22 X
     refine Tw ?_
     exact hX21 _ true rfl Cw
    ·have hb := Option.some.inj hb
     subst hb
     have X := And.intro c22 X
     refine Tw ?_
     exact hX21 _ (s_2 == ([45] : Bytes)) rfl Cw
   ·intro f24 v23 ej Y26
    subst ej
    try dsimp only at hb
    have X := And.intro Y26 X
    refine Tw ?_
    refine bq_if hb rfl (fun c32 hb => ?_) (fun c32 hb => ?_)
    ·have hb := Option.some.inj hb
     subst hb
     have X := And.intro c32 X
     refine Tw ?_
     exact endI rfl
    ·have X := And.intro c32 X
     refine Tw ?_
     refine bnd1 hb (fun j43 hj hb => ?_)
     refine wq_joinF (fun Z => ∀ (f38 : Fr) (v37 : Bool), v37 = j43 → (f38 3 = (.str s_2) ∧ f38 11 = (.bool v37)) → Z f38) (fun Z hX35 => ?_) ?_
     ·have hr34 := hb
      clear hb
      have hb := hj
      clear hj
      refine wq_def J_burinref05_level_3.eq_1 ?_
      refine Tw ?_
      refine Tw ?_
      refine bq_if hb rfl (fun c36 hb => ?_) (fun c36 hb => ?_)
      ·have hb := Option.some.inj hb
       subst hb
       have X := And.intro c36 X
       refine Tw ?_
       exact hX35 _ true rfl Cw
      ·have hb := Option.some.inj hb
       subst hb
       have X := And.intro c36 X
       refine Tw ?_
       exact hX35 _ (s_2 == ([62, 62] : Bytes)) rfl Cw
     ·intro f38 v37 ej Y40
      subst ej
      try dsimp only at hb
      have X := And.intro Y40 X
      refine Tw ?_
      refine bq_if hb rfl (fun c46 hb => ?_) (fun c46 hb => ?_)
      ·have hb := Option.some.inj hb
       subst hb
       have X := And.intro c46 X
       refine Tw ?_
       exact endI rfl
      ·have X := And.intro c46 X
       refine Tw ?_
       refine bnd1 hb (fun j59 hj hb => ?_)
       refine wq_joinF (fun Z => ∀ (f54 : Fr) (v53 : Bool), v53 = j59 → (f54 3 = (.str s_2) ∧ f54 14 = (.bool v53)) → Z f54) (fun Z hX49 => ?_) ?_
       ·have hr48 := hb
        clear hb
        have hb := hj
        clear hj
        refine wq_def J_burinref05_level_4.eq_1 ?_
        refine Tw ?_
        refine Tw ?_
        refine bq_if hb rfl (fun c50 hb => ?_) (fun c50 hb => ?_)
        ·have hb := Option.some.inj hb
         subst hb
         have X := And.intro c50 X
         refine Tw ?_
         exact hX49 _ true rfl Cw
        ·have X := And.intro c50 X
         refine Tw ?_
         refine bq_if hb rfl (fun c51 hb => ?_) (fun c51 hb => ?_)
         ·have hb := Option.some.inj hb
          subst hb
          have X := And.intro c51 X
          refine Tw ?_
          exact hX49 _ true rfl Cw
         ·have X := And.intro c51 X
          refine Tw ?_
          refine bq_if hb rfl (fun c52 hb => ?_) (fun c52 hb => ?_)
          ·have hb := Option.some.inj hb
           subst hb
           have X := And.intro c52 X
           refine Tw ?_
           exact hX49 _ true rfl Cw
          ·have hb := Option.some.inj hb
           subst hb
           have X := And.intro c52 X
           refine Tw ?_
           exact hX49 _ (s_2 == ([62, 61] : Bytes)) rfl Cw
       ·intro f54 v53 ej Y56
        subst ej
        try dsimp only at hb
        have X := And.intro Y56 X
        refine Tw ?_
        refine bq_if hb rfl (fun c62 hb => ?_) (fun c62 hb => ?_)
        ·have hb := Option.some.inj hb
         subst hb
         have X := And.intro c62 X
         refine Tw ?_
         exact endI rfl
        ·have X := And.intro c62 X
         refine Tw ?_
         refine bnd1 hb (fun j73 hj hb => ?_)
         refine wq_joinF (fun Z => ∀ (f68 : Fr) (v67 : Bool), v67 = j73 → (f68 3 = (.str s_2) ∧ f68 19 = (.bool v67)) → Z f68) (fun Z hX65 => ?_) ?_
         ·have hr64 := hb
          clear hb
          have hb := hj
          clear hj
          refine wq_def J_burinref05_level_5.eq_1 ?_
          refine Tw ?_
          refine Tw ?_
          refine bq_if hb rfl (fun c66 hb => ?_) (fun c66 hb => ?_)
          ·have hb := Option.some.inj hb
           subst hb
           have X := And.intro c66 X
           refine Tw ?_
           exact hX65 _ true rfl Cw
          ·have hb := Option.some.inj hb
           subst hb
           have X := And.intro c66 X
           refine Tw ?_
           exact hX65 _ (s_2 == ([33, 61] : Bytes)) rfl Cw
         ·intro f68 v67 ej Y70
          subst ej
          try dsimp only at hb
          have X := And.intro Y70 X
          refine Tw ?_
          refine bq_if hb rfl (fun c76 hb => ?_) (fun c76 hb => ?_)
          ·have hb := Option.some.inj hb
           subst hb
           have X := And.intro c76 X
           refine Tw ?_
           exact endI rfl
          ·have X := And.intro c76 X
           refine Tw ?_
           refine bq_if hb rfl (fun c77 hb => ?_) (fun c77 hb => ?_)
           ·have hb := Option.some.inj hb
            subst hb
            have X := And.intro c77 X
            refine Tw ?_
            exact endI rfl
           ·have X := And.intro c77 X
            refine Tw ?_
            refine bq_if hb rfl (fun c78 hb => ?_) (fun c78 hb => ?_)
            ·have hb := Option.some.inj hb
             subst hb
             have X := And.intro c78 X
             refine Tw ?_
             exact endI rfl
            ·have X := And.intro c78 X
             refine Tw ?_
             refine bq_if hb rfl (fun c79 hb => ?_) (fun c79 hb => ?_)
             ·have hb := Option.some.inj hb
              subst hb
              have X := And.intro c79 X
              refine Tw ?_
              exact endI rfl
             ·have X := And.intro c79 X
              refine Tw ?_
              refine bq_if hb rfl (fun c80 hb => ?_) (fun c80 hb => ?_)
              ·have hb := Option.some.inj hb
               subst hb
               have X := And.intro c80 X
               refine Tw ?_
               exact endI rfl
              ·have X := And.intro c80 X
               refine Tw ?_
               refine bq_if hb rfl (fun c81 hb => ?_) (fun c81 hb => ?_)
               ·have hb := Option.some.inj hb
                subst hb
                have X := And.intro c81 X
                refine Tw ?_
                exact endI rfl
               ·have hb := Option.some.inj hb
                subst hb
                have X := And.intro c81 X
                refine Tw ?_
                exact endI rfl
def G_burinref05_truth (b_2 : Bool) : Option (T_burinref05_Value) :=
 if b_2 then
  some (T_burinref05_Value.mk (1 : Int) false)
 else
  some (T_burinref05_Value.mk (0 : Int) false)
theorem G_burinref05_truth_ok {b_2 : Bool} {r3 : T_burinref05_Value} (hx : G_burinref05_truth b_2 = some r3) : PureE E 93 [(.bool b_2)] (fun v => v = (.agg [(.int .u64 r3.V_), (.bool r3.U_)])) := by
 refine pureE_ok fn_burinref05_truth rfl ?_
 have hb := hx
 dsimp only [G_burinref05_truth] at hb
 have X := True.intro
 refine Tw ?_
 refine bq_if hb rfl (fun c6 hb => ?_) (fun c6 hb => ?_)
 ·have hb := Option.some.inj hb
  subst hb
  have X := And.intro c6 X
  refine Tw ?_
  exact endI rfl
 ·have hb := Option.some.inj hb
  subst hb
  have X := And.intro c6 X
  refine Tw ?_
  exact endI rfl
def G_burinref05_parser_divide (p_2 : T_burinref05_parser) (op_9 : Bytes) (a_10 : T_burinref05_Value) (b_11 : T_burinref05_Value) (live_12 : Bool) : Option (T_burinref05_Value × T_burinref05_parser) :=
 (
  if a_10.U_ then
   some (true, true)
  else
   some (b_11.U_, false)
 ) >>= fun (u_32, v38) =>
 if (b_11.V_ == (0 : Int)) then
  if p_2.ok_ then
   some ((T_burinref05_Value.mk (0 : Int) u_32), (T_burinref05_parser.mk p_2.l_ p_2.at_ (!live_12)))
  else
   some ((T_burinref05_Value.mk (0 : Int) u_32), (T_burinref05_parser.mk p_2.l_ p_2.at_ false))
 else
  if u_32 then
   if (op_9 == ([47] : Bytes)) then
    quo .u64 a_10.V_ b_11.V_ >>= fun i61 =>
    some ((T_burinref05_Value.mk i61 true), p_2)
   else
    rem a_10.V_ b_11.V_ >>= fun i63 =>
    some ((T_burinref05_Value.mk i63 true), p_2)
  else
   if (b_11.V_ == (18446744073709551615 : Int)) then
    if (op_9 == ([47] : Bytes)) then
     some ((T_burinref05_Value.mk (IntKind.wrap .u64 (0 - a_10.V_)) false), p_2)
    else
     some ((T_burinref05_Value.mk (0 : Int) false), p_2)
   else
    if (op_9 == ([47] : Bytes)) then
     quo .i64 (IntKind.wrap .i64 a_10.V_) (IntKind.wrap .i64 b_11.V_) >>= fun i70 =>
     some ((T_burinref05_Value.mk (IntKind.wrap .u64 i70) false), p_2)
    else
     rem (IntKind.wrap .i64 a_10.V_) (IntKind.wrap .i64 b_11.V_) >>= fun i72 =>
     some ((T_burinref05_Value.mk (IntKind.wrap .u64 i72) false), p_2)
theorem G_burinref05_parser_divide_ok {h1 : Heap} {b4 : Nat} {p_2 : T_burinref05_parser} {op_9 : Bytes} {a_10 : T_burinref05_Value} {b_11 : T_burinref05_Value} {live_12 : Bool} {o5 : Own} {e6 : Nat} {M7 : List (List PV)} {r13 : T_burinref05_Value} {r14 : T_burinref05_parser} (hx : G_burinref05_parser_divide p_2 op_9 a_10 b_11 live_12 = some (r13, r14)) (z19 : h1.box b4 = some [(.slice o5 e6 M7), (.int .i64 p_2.at_), (.bool p_2.ok_)]) (w20 : b4 < h1.n) (s8 : SlR 6 T_api_Tok.R o5 e6 p_2.l_ M7) : CallC E (.func 130 [] []) [(.ptr b4 0), (.str op_9), (.agg [(.int .u64 a_10.V_), (.bool a_10.U_)]), (.agg [(.int .u64 b_11.V_), (.bool b_11.U_)]), (.bool live_12)] h1 (fun v h21 => ∃ o15 e16 M17, v = (.agg [(.int .u64 r13.V_), (.bool r13.U_)]) ∧ h21.box b4 = some [(.slice o15 e16 M17), (.int .i64 r14.at_), (.bool r14.ok_)] ∧ FrB [b4] h1 h21 ∧ SlR 6 T_api_Tok.R o15 e16 r14.l_ M17) := by
 refine callE_ok fn_burinref05_parser_divide rfl ?_
 have hb := hx
 dsimp only [G_burinref05_parser_divide] at hb
 have X := And.intro z19 (s8.len)
 refine Tw ?_
 refine bnd1 hb (fun j40 hj hb => ?_)
 refine wq_join (fun Z => ∀ (f33 : Fr) (h34 : Heap) (u_32 : Bool) (v38 : Bool), (u_32, v38) = j40 → (f33 0 = (.ptr b4 0) ∧ f33 1 = (.str op_9) ∧ f33 4 = (.bool live_12) ∧ f33 7 = (.ptr h1.n 0) ∧ f33 8 = (.ptr (h1.n + 1) 0) ∧ f33 10 = (.ptr (h1.n + 1 + 1) 0) ∧ f33 11 = (.bool u_32) ∧ h34.box b4 = some [(.slice o5 e6 M7), (.int .i64 p_2.at_), (.bool p_2.ok_)] ∧ h34.box h1.n = some [(.int .u64 a_10.V_), (.bool v38)] ∧ h34.box (h1.n + 1) = some [(.int .u64 b_11.V_), (.bool b_11.U_)] ∧ h34.box (h1.n + 1 + 1) = some [(.int .u64 (0 : Int)), (.bool false)] ∧ FrB [b4] h1 h34) → (b4 < h1.n ∧ h1.n ≤ h1.n ∧ h1.n < (h1.n + 1) ∧ (h1.n + 1) < (h1.n + 1 + 1) ∧ (h1.n + 1 + 1) < h34.n) → Z f33 h34) (fun Z hX30 => ?_) ?_
 ·have hr29 := hb
  clear hb
  have hb := hj
  clear hj
  refine wq_def J_burinref05_parser_divide_1.eq_1 ?_
  refine Tw ?_
  refine Tw ?_
  refine bq_if hb rfl (fun c31 hb => ?_) (fun c31 hb => ?_)
  ·have hb := Option.some.inj hb
   subst hb
   have X := And.intro c31 X
   refine Tw ?_
   exact hX30 _ _ true true rfl Cf Cn
  ·have hb := Option.some.inj hb
   subst hb
   have X := And.intro c31 X
   refine Tw ?_
   exact hX30 _ _ b_11.U_ false rfl Cf Cn
 ·intro f33 h34 u_32 v38 ej Y35 Y37
  subst ej
  try dsimp only at hb
  have X := And.intro Y35 X
  refine Tw ?_
  refine bq_if hb rfl (fun c53 hb => ?_) (fun c53 hb => ?_)
  ·have X := And.intro c53 X
   refine Tw ?_
   refine bq_if hb rfl (fun c54 hb => ?_) (fun c54 hb => ?_)
   ·have hb := Option.some.inj hb
    obtain ⟨e0, e1⟩ := Prod.mk.inj hb
    subst e0
    subst e1
    have X := And.intro c54 X
    refine Tw ?_
    exact endHI ⟨o5, e6, M7, rfl, Cw, Cf, s8⟩
   ·have hb := Option.some.inj hb
    obtain ⟨e0, e1⟩ := Prod.mk.inj hb
    subst e0
    subst e1
    have X := And.intro c54 X
    refine Tw ?_
    exact endHI ⟨o5, e6, M7, rfl, Cw, Cf, s8⟩
  ·have X := And.intro c53 X
   refine Tw ?_
   refine bq_if hb rfl (fun c59 hb => ?_) (fun c59 hb => ?_)
   ·have X := And.intro c59 X
    refine Tw ?_
    refine bq_if hb rfl (fun c60 hb => ?_) (fun c60 hb => ?_)
    ·have X := And.intro c60 X
     refine Tw ?_
     refine vq_quo hb (fun i61 hi61 hb => ?_)
     have hb := Option.some.inj hb
     obtain ⟨e0, e1⟩ := Prod.mk.inj hb
     subst e0
     subst e1
     refine Tw ?_
     exact endHI ⟨o5, e6, M7, rfl, Cw, Cf, s8⟩
    ·have X := And.intro c60 X
     refine Tw ?_
     refine vq_rem hb (fun i63 hi63 hb => ?_)
     have hb := Option.some.inj hb
     obtain ⟨e0, e1⟩ := Prod.mk.inj hb
     subst e0
     subst e1
     refine Tw ?_
     exact endHI ⟨o5, e6, M7, rfl, Cw, Cf, s8⟩
   ·have X := And.intro c59 X
    refine Tw ?_
    refine bq_if hb rfl (fun c65 hb => ?_) (fun c65 hb => ?_)
    ·have X := And.intro c65 X
     refine Tw ?_
     refine bq_if hb rfl (fun c66 hb => ?_) (fun c66 hb => ?_)
     ·have hb := Option.some.inj hb
      obtain ⟨e0, e1⟩ := Prod.mk.inj hb
      subst e0
      subst e1
      have X := And.intro c66 X
      refine Tw ?_
      exact endHI ⟨o5, e6, M7, rfl, Cw, Cf, s8⟩
     ·have hb := Option.some.inj hb
      obtain ⟨e0, e1⟩ := Prod.mk.inj hb
      subst e0
      subst e1
      have X := And.intro c66 X
      refine Tw ?_
      exact endHI ⟨o5, e6, M7, rfl, Cw, Cf, s8⟩
    ·have X := And.intro c65 X
     refine Tw ?_
     refine bq_if hb rfl (fun c69 hb => ?_) (fun c69 hb => ?_)
     ·have X := And.intro c69 X
      refine Tw ?_
      refine vq_quo hb (fun i70 hi70 hb => ?_)
      have hb := Option.some.inj hb
      obtain ⟨e0, e1⟩ := Prod.mk.inj hb
      subst e0
      subst e1
      refine Tw ?_
      exact endHI ⟨o5, e6, M7, rfl, Cw, Cf, s8⟩
     ·have X := And.intro c69 X
      refine Tw ?_
      refine vq_rem hb (fun i72 hi72 hb => ?_)
      have hb := Option.some.inj hb
      obtain ⟨e0, e1⟩ := Prod.mk.inj hb
      subst e0
      subst e1
      refine Tw ?_
      exact endHI ⟨o5, e6, M7, rfl, Cw, Cf, s8⟩
def G_burinref05_parser_shift (p_2 : T_burinref05_parser) (op_9 : Bytes) (a_10 : T_burinref05_Value) (b_11 : T_burinref05_Value) (live_12 : Bool) : Option (T_burinref05_Value × T_burinref05_parser) :=
 if (decide ((64 : Int) ≤ b_11.V_)) then
  if p_2.ok_ then
   some ((T_burinref05_Value.mk (0 : Int) a_10.U_), (T_burinref05_parser.mk p_2.l_ p_2.at_ (!live_12)))
  else
   some ((T_burinref05_Value.mk (0 : Int) a_10.U_), (T_burinref05_parser.mk p_2.l_ p_2.at_ false))
 else
  if (op_9 == ([60, 60] : Bytes)) then
   shl .u64 a_10.V_ b_11.V_ >>= fun i35 =>
   some ((T_burinref05_Value.mk i35 a_10.U_), p_2)
  else
   if a_10.U_ then
    shr .u64 a_10.V_ b_11.V_ >>= fun i38 =>
    some ((T_burinref05_Value.mk i38 true), p_2)
   else
    shr .i64 (IntKind.wrap .i64 a_10.V_) b_11.V_ >>= fun i40 =>
    some ((T_burinref05_Value.mk (IntKind.wrap .u64 i40) false), p_2)
end Go.Proofs.YtmngkcpobmhnoaaGreatDoor.Sim
