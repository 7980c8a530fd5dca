/- Printed functions, continued. -/
import Derived.Test.YtmngkcpobmhnoaaGreatDoorKG5
set_option linter.all false
set_option maxHeartbeats 4000000
set_option maxRecDepth 20000
namespace Go.Proofs.YtmngkcpobmhnoaaGreatDoor.Sim
def G_burinref05_truth (b_2 : Bool) : Option (T_burinref05_Value) :=
 if b_2 then
  some (T_burinref05_Value.mk (1 : Int) false)
 else
  some (T_burinref05_Value.mk (0 : Int) false)
def G_burinref05_compare (op_2 : Bytes) (a_3 : T_burinref05_Value) (b_4 : T_burinref05_Value) : Option (T_burinref05_Value) :=
 (
  if (!a_3.U_) then
   if (!b_4.U_) then
    some (decide ((IntKind.wrap .i64 a_3.V_) < (IntKind.wrap .i64 b_4.V_)))
   else
    some (decide (a_3.V_ < b_4.V_))
  else
   some (decide (a_3.V_ < b_4.V_))
 ) >>= fun less_17 =>
 if (op_2 == ([60] : Bytes)) then
  G_burinref05_truth less_17 >>= fun r34 =>
  some r34
 else
  if (op_2 == ([62] : Bytes)) then
   if (!less_17) then
    G_burinref05_truth (!(a_3.V_ == b_4.V_)) >>= fun r39 =>
    some r39
   else
    G_burinref05_truth false >>= fun r42 =>
    some r42
  else
   if (op_2 == ([60, 61] : Bytes)) then
    if less_17 then
     G_burinref05_truth true >>= fun r47 =>
     some r47
    else
     G_burinref05_truth (a_3.V_ == b_4.V_) >>= fun r50 =>
     some r50
   else
    if (op_2 == ([62, 61] : Bytes)) then
     G_burinref05_truth (!less_17) >>= fun r54 =>
     some r54
    else
     if (op_2 == ([61, 61] : Bytes)) then
      G_burinref05_truth (a_3.V_ == b_4.V_) >>= fun r58 =>
      some r58
     else
      G_burinref05_truth (!(a_3.V_ == b_4.V_)) >>= fun r61 =>
      some r61
def G_burinref05_parser_apply (p_2 : T_burinref05_parser) (op_9 : Bytes) (a_10 : T_burinref05_Value) (b_11 : T_burinref05_Value) (live_12 : Bool) : Option (T_burinref05_Value × T_burinref05_parser) :=
 (
  if a_10.U_ then
   some (true, true)
  else
   some (b_11.U_, false)
 ) >>= fun (u_32, v38) =>
 if (op_9 == ([42] : Bytes)) then
  some ((T_burinref05_Value.mk (IntKind.wrap .u64 (a_10.V_ * b_11.V_)) u_32), p_2)
 else
  (
   if (op_9 == ([47] : Bytes)) then
    some true
   else
    some (op_9 == ([37] : Bytes))
  ) >>= fun v59 =>
  if v59 then
   G_burinref05_parser_divide p_2 op_9 (T_burinref05_Value.mk a_10.V_ v38) b_11 live_12 >>= fun (r76, p77) =>
   some (r76, p77)
  else
   if (op_9 == ([43] : Bytes)) then
    some ((T_burinref05_Value.mk (IntKind.wrap .u64 (a_10.V_ + b_11.V_)) u_32), p_2)
   else
    if (op_9 == ([45] : Bytes)) then
     some ((T_burinref05_Value.mk (IntKind.wrap .u64 (a_10.V_ - b_11.V_)) u_32), p_2)
    else
     (
      if (op_9 == ([60, 60] : Bytes)) then
       some true
      else
       some (op_9 == ([62, 62] : Bytes))
     ) >>= fun v99 =>
     if v99 then
      G_burinref05_parser_shift p_2 op_9 (T_burinref05_Value.mk a_10.V_ v38) b_11 live_12 >>= fun (r116, p117) =>
      some (r116, p117)
     else
      if (op_9 == ([38] : Bytes)) then
       some ((T_burinref05_Value.mk (band .u64 a_10.V_ b_11.V_) u_32), p_2)
      else
       if (op_9 == ([94] : Bytes)) then
        some ((T_burinref05_Value.mk (bxor .u64 a_10.V_ b_11.V_) u_32), p_2)
       else
        if (op_9 == ([124] : Bytes)) then
         some ((T_burinref05_Value.mk (bor .u64 a_10.V_ b_11.V_) u_32), p_2)
        else
         G_burinref05_compare op_9 (T_burinref05_Value.mk a_10.V_ v38) b_11 >>= fun r137 =>
         some (r137, p_2)
end Go.Proofs.YtmngkcpobmhnoaaGreatDoor.Sim
