/- Printed functions, continued. -/
import Derived.Test.YtmngkcpobmhnoaaGreatDoorKG7
set_option linter.all false
set_option maxHeartbeats 4000000
set_option maxRecDepth 20000
namespace Go.Proofs.YtmngkcpobmhnoaaGreatDoor.Sim
def G_burinref05_Eval (k : Nat) (l_2 : List T_api_Tok) : Option (Int × Bool × Int) :=
 G_burinref05_parser_choice k (T_burinref05_parser.mk l_2 (0 : Int) true) true >>= fun (r12, p13) =>
 if (!p13.ok_) then
  some ((0 : Int), false, (50 : Int))
 else
  if (!(p13.at_ == ((List.length l_2 : Nat) : Int))) then
   some ((0 : Int), false, (50 : Int))
  else
   some (r12.V_, r12.U_, (0 : Int))
theorem G_burinref05_Eval_ok {k : Nat} {l_2 : List T_api_Tok} {o3 : Own} {e4 : Nat} {M5 : List (List PV)} {r7 : Int} {r8 : Bool} {r9 : Int} (hx : G_burinref05_Eval k l_2 = some (r7, r8, r9)) (s6 : SlR 6 T_api_Tok.R o3 e4 l_2 M5) : PureE E 23 [(.slice o3 e4 M5)] (fun v => v = (.tuple [(.int .u64 r7), (.bool r8), (.int .i64 r9)])) := by
 refine pureE_ok fn_burinref05_Eval rfl ?_
 have hb := hx
 dsimp only [G_burinref05_Eval] at hb
 have X := s6.len
 refine Tw ?_
 refine bnd2 hb (fun r12 p13 h18 hb => ?_)
 try dsimp only at hb
 refine fq_mono1 (G_burinref05_parser_choice_ok h18 Cw Cn s6) (fun o14 e15 M16 h19 S29 => ?_)
 have z22 := S29.1
 have F20 := S29.2.1
 have s17 := S29.2.2
 have q21 := F20.n
 try simp only [HN] at q21
 have X := And.intro z22 (And.intro F20.box1 (And.intro F20.loop (And.intro F20.bty (And.intro s17.len X))))
 refine Tw ?_
 refine bq_if hb rfl (fun c27 hb => ?_) (fun c27 hb => ?_)
 ·have hb := Option.some.inj hb
  obtain ⟨e0, hb⟩ := Prod.mk.inj hb
  obtain ⟨e1, e2⟩ := Prod.mk.inj hb
  subst e0
  subst e1
  subst e2
  have X := And.intro c27 X
  refine Tw ?_
  exact endI rfl
 ·have X := And.intro c27 X
  refine Tw ?_
  refine bq_if hb rfl (fun c28 hb => ?_) (fun c28 hb => ?_)
  ·have hb := Option.some.inj hb
   obtain ⟨e0, hb⟩ := Prod.mk.inj hb
   obtain ⟨e1, e2⟩ := Prod.mk.inj hb
   subst e0
   subst e1
   subst e2
   have X := And.intro c28 X
   refine Tw ?_
   exact endI rfl
  ·have hb := Option.some.inj hb
   obtain ⟨e0, hb⟩ := Prod.mk.inj hb
   obtain ⟨e1, e2⟩ := Prod.mk.inj hb
   subst e0
   subst e1
   subst e2
   have X := And.intro c28 X
   refine Tw ?_
   exact endI rfl
def G_burinlaw05_CondLines (k : Nat) (s_2 : Bytes) : Option (Bool) :=
 G_burinlaw05_shown  >>= fun r4 =>
 subT s_2 (if (5000 : Int) < ((List.length s_2 : Nat) : Int) then (5000 : Int) else ((List.length s_2 : Nat) : Int)) >>= fun t6 =>
 G_token_Lex ([(T_api_Line.mk (1 : Int) t6)] : List T_api_Line) >>= fun (r15, r20, r21) =>
 if (!(r20 == (0 : Int))) then
  some r4
 else
  G_cond_Eval k r15 >>= fun (r24, r25, r26) =>
  G_burinref05_Eval k r15 >>= fun (r28, r29, r30) =>
  if r4 then
   if (r24 == r28) then
    if (r25 == r29) then
     some (r26 == r30)
    else
     some false
   else
    some false
  else
   some false
theorem G_burinlaw05_CondLines_ok {k : Nat} {s_2 : Bytes} {r3 : Bool} (hx : G_burinlaw05_CondLines k s_2 = some r3) : PureE E 6 [(.str s_2)] (fun v => v = (.bool r3)) := by
 refine pureE_ok fn_burinlaw05_CondLines rfl ?_
 have hb := hx
 dsimp only [G_burinlaw05_CondLines] at hb
 have X := True.intro
 refine Tw ?_
 refine bnd1 hb (fun r4 h5 hb => ?_)
 refine pq_eq (G_burinlaw05_shown_ok h5) ?_
 refine Tw ?_
 refine vq_subTs hb (fun t6 ht6 hb => ?_)
 refine Tw ?_
 refine vq_new rfl (fun o7 h8 n12 O9 F10 => ?_)
 have q11 := F10.n
 try simp only [HN] at q11
 have s13 : SlR 2 T_api_Line.R o7 2 ([(T_api_Line.mk (1 : Int) t6)] : List T_api_Line) [[(.int .i64 (1 : Int)), (.str t6)]] := (slr_cons n12 rfl (slr_0 (R := T_api_Line.R)))
 have X := And.intro F10.box (And.intro F10.loop (And.intro F10.bty (And.intro O9 X)))
 refine Tw ?_
 refine bnd3 hb (fun r15 r20 r21 h22 hb => ?_)
 try dsimp only at hb
 refine pq_in1 (G_token_Lex_ok h22 s13.st) (fun o16 e17 M18 s19 => ?_)
 have X := And.intro s19.len X
 refine Tw ?_
 refine bq_if hb rfl (fun c23 hb => ?_) (fun c23 hb => ?_)
 ·have hb := Option.some.inj hb
  subst hb
  have X := And.intro c23 X
  refine Tw ?_
  exact endI rfl
 ·have X := And.intro c23 X
  refine Tw ?_
  refine bnd3 hb (fun r24 r25 r26 h27 hb => ?_)
  try dsimp only at hb
  refine pq_eq (G_cond_Eval_ok h27 s19.st) ?_
  refine Tw ?_
  refine bnd3 hb (fun r28 r29 r30 h31 hb => ?_)
  try dsimp only at hb
  refine pq_eq (G_burinref05_Eval_ok h31 s19.st) ?_
  refine Tw ?_
  refine bq_if hb rfl (fun c32 hb => ?_) (fun c32 hb => ?_)
  ·have X := And.intro c32 X
   refine Tw ?_
   refine bq_if hb rfl (fun c33 hb => ?_) (fun c33 hb => ?_)
   ·have X := And.intro c33 X
    refine Tw ?_
    refine bq_if hb rfl (fun c34 hb => ?_) (fun c34 hb => ?_)
    ·have hb := Option.some.inj hb
     subst hb
     have X := And.intro c34 X
     refine Tw ?_
     exact endI rfl
    ·have hb := Option.some.inj hb
     subst hb
     have X := And.intro c34 X
     refine Tw ?_
     exact endI rfl
   ·have hb := Option.some.inj hb
    subst hb
    have X := And.intro c33 X
    refine Tw ?_
    exact endI rfl
  ·have hb := Option.some.inj hb
   subst hb
   have X := And.intro c32 X
   refine Tw ?_
   exact endI rfl
end Go.Proofs.YtmngkcpobmhnoaaGreatDoor.Sim
