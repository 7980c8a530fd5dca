/- Printed functions, continued. -/
import Derived.Test.YtmngkcpobmhnoaaGreatDoorKG6
set_option linter.all false
set_option maxHeartbeats 4000000
set_option maxRecDepth 20000
namespace Go.Proofs.YtmngkcpobmhnoaaGreatDoor.Sim
def G_burinref05_parser_atom (k : Nat) : T_burinref05_parser → Bool → Option (T_burinref05_Value × T_burinref05_parser) := (Rec_burinref05_parser_choice.lvl k).burinref05_parser_atom
theorem G_burinref05_parser_atom_ok {k : Nat} {h1 : Heap} {b4 : Nat} {p_2 : T_burinref05_parser} {live_9 : Bool} {o5 : Own} {e6 : Nat} {M7 : List (List PV)} {r10 : T_burinref05_Value} {r11 : T_burinref05_parser} (hx : G_burinref05_parser_atom k p_2 live_9 = some (r10, r11)) (z16 : h1.box b4 = some [(.slice o5 e6 M7), (.int .i64 p_2.at_), (.bool p_2.ok_)]) (w17 : b4 < h1.n) (s8 : SlR 6 T_api_Tok.R o5 e6 p_2.l_ M7) : CallC E (.func 129 [] []) [(.ptr b4 0), (.bool live_9)] h1 (fun v h18 => ∃ o12 e13 M14, v = (.agg [(.int .u64 r10.V_), (.bool r10.U_)]) ∧ h18.box b4 = some [(.slice o12 e13 M14), (.int .i64 r11.at_), (.bool r11.ok_)] ∧ FrB [b4] h1 h18 ∧ SlR 6 T_api_Tok.R o12 e13 r11.l_ M14) := (Rec_burinref05_parser_choice.lvl_ok k).burinref05_parser_atom hx z16 w17 s8
def G_burinref05_Eval (k : Nat) (l_2 : List T_api_Tok) : Option (Int × Bool × Int) :=
  G_burinref05_parser_choice k (T_burinref05_parser.mk l_2 (0 : Int) true) true >>= fun (r12, p13) =>
  if (!p13.ok_) then
    some ((0 : Int), false, (50 : Int))
  else
    if (!(p13.at_ == ((List.length l_2 : Nat) : Int))) then
      some ((0 : Int), false, (50 : Int))
    else
      some (r12.V_, r12.U_, (0 : Int))
theorem G_burinref05_Eval_ok {k : Nat} {l_2 : List T_api_Tok} {o3 : Own} {e4 : Nat} {M5 : List (List PV)} {r7 : Int} {r8 : Bool} {r9 : Int} (hx : G_burinref05_Eval k l_2 = some (r7, r8, r9)) (s6 : SlR 6 T_api_Tok.R o3 e4 l_2 M5) : PureE E 23 [(.slice o3 e4 M5)] (fun v => v = (.tuple [(.int .u64 r7), (.bool r8), (.int .i64 r9)])) := by
  refine pureE_ok fn_burinref05_Eval rfl ?_
  have hb := hx
  dsimp only [G_burinref05_Eval] at hb
  have X := s6.len
  refine Tw ?_
  refine bnd2 hb (fun r12 p13 h18 hb => ?_)
  try dsimp only at hb
  refine fq_mono1 (G_burinref05_parser_choice_ok h18 Cw Cn s6) (fun o14 e15 M16 h19 S29 => ?_)
  have z22 := S29.1
  have F20 := S29.2.1
  have s17 := S29.2.2
  have q21 := F20.n
  try simp only [HN] at q21
  have X := And.intro z22 (And.intro F20.box1 (And.intro F20.loop (And.intro F20.bty (And.intro s17.len X))))
  refine Tw ?_
  refine bq_if hb rfl (fun c27 hb => ?_) (fun c27 hb => ?_)
  · have hb := Option.some.inj hb
    obtain ⟨e0, hb⟩ := Prod.mk.inj hb
    obtain ⟨e1, e2⟩ := Prod.mk.inj hb
    subst e0
    subst e1
    subst e2
    have X := And.intro c27 X
    refine Tw ?_
    exact endI rfl
  · have X := And.intro c27 X
    refine Tw ?_
    refine bq_if hb rfl (fun c28 hb => ?_) (fun c28 hb => ?_)
    · have hb := Option.some.inj hb
      obtain ⟨e0, hb⟩ := Prod.mk.inj hb
      obtain ⟨e1, e2⟩ := Prod.mk.inj hb
      subst e0
      subst e1
      subst e2
      have X := And.intro c28 X
      refine Tw ?_
      exact endI rfl
    · have hb := Option.some.inj hb
      obtain ⟨e0, hb⟩ := Prod.mk.inj hb
      obtain ⟨e1, e2⟩ := Prod.mk.inj hb
      subst e0
      subst e1
      subst e2
      have X := And.intro c28 X
      refine Tw ?_
      exact endI rfl
def G_burinlaw05_CondEvals (k : Nat) (l_2 : List T_api_Tok) : Option (Bool) :=
  G_burinlaw05_shown  >>= fun r8 =>
  subT l_2 (if (5000 : Int) < ((List.length l_2 : Nat) : Int) then (5000 : Int) else ((List.length l_2 : Nat) : Int)) >>= fun t10 =>
  G_cond_Eval k t10 >>= fun (r14, r15, r16) =>
  G_burinref05_Eval k t10 >>= fun (r18, r19, r20) =>
  if r8 then
    if (r14 == r18) then
      if (r15 == r19) then
        some (r16 == r20)
      else
        some false
    else
      some false
  else
    some false
theorem G_burinlaw05_CondEvals_ok {k : Nat} {l_2 : List T_api_Tok} {o3 : Own} {e4 : Nat} {M5 : List (List PV)} {r7 : Bool} (hx : G_burinlaw05_CondEvals k l_2 = some r7) (s6 : SlR 6 T_api_Tok.R o3 e4 l_2 M5) : PureE E 5 [(.slice o3 e4 M5)] (fun v => v = (.bool r7)) := by
  refine pureE_ok fn_burinlaw05_CondEvals rfl ?_
  have hb := hx
  dsimp only [G_burinlaw05_CondEvals] at hb
  have X := s6.len
  refine Tw ?_
  refine bnd1 hb (fun r8 h9 hb => ?_)
  refine pq_eq (G_burinlaw05_shown_ok h9) ?_
  refine Tw ?_
  refine vq_subT s6 hb (fun t10 o11 M12 ht10 hb s13 => ?_)
  have X := And.intro s13.len X
  refine Tw ?_
  refine bnd3 hb (fun r14 r15 r16 h17 hb => ?_)
  try dsimp only at hb
  refine pq_eq (G_cond_Eval_ok h17 s13.st) ?_
  refine Tw ?_
  refine bnd3 hb (fun r18 r19 r20 h21 hb => ?_)
  try dsimp only at hb
  refine pq_eq (G_burinref05_Eval_ok h21 s13.st) ?_
  refine Tw ?_
  refine bq_if hb rfl (fun c22 hb => ?_) (fun c22 hb => ?_)
  · have X := And.intro c22 X
    refine Tw ?_
    refine bq_if hb rfl (fun c23 hb => ?_) (fun c23 hb => ?_)
    · have X := And.intro c23 X
      refine Tw ?_
      refine bq_if hb rfl (fun c24 hb => ?_) (fun c24 hb => ?_)
      · have hb := Option.some.inj hb
        subst hb
        have X := And.intro c24 X
        refine Tw ?_
        exact endI rfl
      · have hb := Option.some.inj hb
        subst hb
        have X := And.intro c24 X
        refine Tw ?_
        exact endI rfl
    · have hb := Option.some.inj hb
      subst hb
      have X := And.intro c23 X
      refine Tw ?_
      exact endI rfl
  · have hb := Option.some.inj hb
    subst hb
    have X := And.intro c22 X
    refine Tw ?_
    exact endI rfl
end Go.Proofs.YtmngkcpobmhnoaaGreatDoor.Sim
