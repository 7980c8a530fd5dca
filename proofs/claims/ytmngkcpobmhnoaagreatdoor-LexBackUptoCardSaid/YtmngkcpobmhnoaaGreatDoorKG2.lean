/- Printed functions, continued. -/
import Derived.Test.YtmngkcpobmhnoaaGreatDoorKG1
set_option linter.all false
set_option maxHeartbeats 4000000
set_option maxRecDepth 20000
namespace Go.Proofs.YtmngkcpobmhnoaaGreatDoor.Sim
def G_lex_Right (w_2 : T_api_Word) : Option (Bool) :=
 if (w_2.Kind_ == (3 : Int)) then
  if (w_2.S_ == ([] : Bytes)) then
   G_lex_lies w_2.V_ w_2.T_ >>= fun r8 =>
   some r8
  else
   some false
 else
  (
   if (!(w_2.V_ == (0 : Int))) then
    some (Ex2.a false)
   else
    if (!(w_2.T_ == (0 : Int))) then
     some (Ex2.a false)
    else
     some (Ex2.b ())
  ) >>= fun j23 => match j23 with
   | .a q => some q
   | .b () =>
    if (w_2.Kind_ == (4 : Int)) then
     some (decide (((List.length w_2.S_ : Nat) : Int) ≤ (4096 : Int)))
    else
     G_token_One w_2.S_ >>= fun (r27, r28) =>
     if (w_2.Kind_ == (1 : Int)) then
      G_lex_IsKey w_2.S_ >>= fun r34 =>
      some r34
     else
      if (w_2.Kind_ == (2 : Int)) then
       if r28 then
        if (r27.Kind_ == (1 : Int)) then
         G_lex_IsKey w_2.S_ >>= fun r39 =>
         some (!r39)
        else
         some false
       else
        some false
      else
       if (w_2.Kind_ == (5 : Int)) then
        if r28 then
         if (r27.Kind_ == (5 : Int)) then
          idx w_2.S_ (0 : Int) >>= fun x44 =>
          some (!((x44.toNat : Int) == (35 : Int)))
         else
          some false
        else
         some false
       else
        some false
theorem G_lex_Right_ok {w_2 : T_api_Word} {r3 : Bool} (hx : G_lex_Right w_2 = some r3) : PureE E 31 [(.agg [(.int .i64 w_2.Kind_), (.str w_2.S_), (.int .i64 w_2.V_), (.int .i64 w_2.T_), (.str w_2.File_), (.int .i64 w_2.Line_)])] (fun v => v = (.bool r3)) := by
 refine pureE_ok fn_lex_Right rfl ?_
 have hb := hx
 dsimp only [G_lex_Right] at hb
 have X := True.intro
 refine Tw ?_
 refine bq_if hb rfl (fun c6 hb => ?_) (fun c6 hb => ?_)
 ·have X := And.intro c6 X
  refine Tw ?_
  refine bq_if hb rfl (fun c7 hb => ?_) (fun c7 hb => ?_)
  ·have X := And.intro c7 X
   refine Tw ?_
   refine bnd1 hb (fun r8 h9 hb => ?_)
   refine pq_eq (G_lex_lies_ok h9) ?_
   have hb := Option.some.inj hb
   subst hb
   refine Tw ?_
   exact endI rfl
  ·have hb := Option.some.inj hb
   subst hb
   have X := And.intro c7 X
   refine Tw ?_
   exact endI rfl
 ·have X := And.intro c6 X
  refine Tw ?_
  refine bnd1 hb (fun j23 hj hb => ?_)
  refine wq_join (fun Z => ∀ (f17 : Fr) (h18 : Heap), Ex2.b () = j23 → (f17 1 = (.ptr 0 0) ∧ h18.box 0 = some [(.int .i64 w_2.Kind_), (.str w_2.S_), (.int .i64 w_2.V_), (.int .i64 w_2.T_), (.str w_2.File_), (.int .i64 w_2.Line_)]) → (0 < h18.n) → Z f17 h18) (fun Z hX12 => ?_) ?_
  ·have hr11 := hb
   clear hb
   have hb := hj
   clear hj
   refine wq_def J_lex_Right_1.eq_1 ?_
   refine Tw ?_
   refine Tw ?_
   refine bq_if hb rfl (fun c13 hb => ?_) (fun c13 hb => ?_)
   ·have hq := Option.some.inj hb
    subst hq
    try dsimp only at hr11
    have hb := hr11
    have hb := Option.some.inj hb
    subst hb
    have X := And.intro c13 X
    refine Tw ?_
    exact endI rfl
   ·have X := And.intro c13 X
    refine Tw ?_
    refine bq_if hb rfl (fun c15 hb => ?_) (fun c15 hb => ?_)
    ·have hq := Option.some.inj hb
     subst hq
     try dsimp only at hr11
     have hb := hr11
     have hb := Option.some.inj hb
     subst hb
     have X := And.intro c15 X
     refine Tw ?_
     exact endI rfl
    ·have hb := Option.some.inj hb
     subst hb
     have X := And.intro c15 X
     refine Tw ?_
     exact hX12 _ _ rfl Cw Cn
  ·intro f17 h18 ej Y19 Y21
   subst ej
   try dsimp only at hb
   have X := And.intro Y19 X
   refine Tw ?_
   refine bq_if hb rfl (fun c26 hb => ?_) (fun c26 hb => ?_)
   ·have hb := Option.some.inj hb
    subst hb
    have X := And.intro c26 X
    refine Tw ?_
    exact endI rfl
   ·have X := And.intro c26 X
    refine Tw ?_
    refine bnd2 hb (fun r27 r28 h29 hb => ?_)
    try dsimp only at hb
    refine pq_eq (G_token_One_ok h29) ?_
    refine Tw ?_
    refine bq_if hb rfl (fun c33 hb => ?_) (fun c33 hb => ?_)
    ·have X := And.intro c33 X
     refine Tw ?_
     refine bnd1 hb (fun r34 h35 hb => ?_)
     refine pq_eq (G_lex_IsKey_ok h35) ?_
     have hb := Option.some.inj hb
     subst hb
     refine Tw ?_
     exact endI rfl
    ·have X := And.intro c33 X
     refine Tw ?_
     refine bq_if hb rfl (fun c36 hb => ?_) (fun c36 hb => ?_)
     ·have X := And.intro c36 X
      refine Tw ?_
      refine bq_if hb rfl (fun c37 hb => ?_) (fun c37 hb => ?_)
      ·have X := And.intro c37 X
       refine Tw ?_
       refine bq_if hb rfl (fun c38 hb => ?_) (fun c38 hb => ?_)
       ·have X := And.intro c38 X
        refine Tw ?_
        refine bnd1 hb (fun r39 h40 hb => ?_)
        refine pq_eq (G_lex_IsKey_ok h40) ?_
        have hb := Option.some.inj hb
        subst hb
        refine Tw ?_
        exact endI rfl
       ·have hb := Option.some.inj hb
        subst hb
        have X := And.intro c38 X
        refine Tw ?_
        exact endI rfl
      ·have hb := Option.some.inj hb
       subst hb
       have X := And.intro c37 X
       refine Tw ?_
       exact endI rfl
     ·have X := And.intro c36 X
      refine Tw ?_
      refine bq_if hb rfl (fun c41 hb => ?_) (fun c41 hb => ?_)
      ·have X := And.intro c41 X
       refine Tw ?_
       refine bq_if hb rfl (fun c42 hb => ?_) (fun c42 hb => ?_)
       ·have X := And.intro c42 X
        refine Tw ?_
        refine bq_if hb rfl (fun c43 hb => ?_) (fun c43 hb => ?_)
        ·have X := And.intro c43 X
         refine Tw ?_
         refine vq_idxS hb (fun x44 hx44 hb => ?_)
         have hb := Option.some.inj hb
         subst hb
         refine Tw ?_
         exact endI rfl
        ·have hb := Option.some.inj hb
         subst hb
         have X := And.intro c43 X
         refine Tw ?_
         exact endI rfl
       ·have hb := Option.some.inj hb
        subst hb
        have X := And.intro c42 X
        refine Tw ?_
        exact endI rfl
      ·have hb := Option.some.inj hb
       subst hb
       have X := And.intro c41 X
       refine Tw ?_
       exact endI rfl
def G_lex_Show_L3 (c_164 : Int) (v165 : List Int) (v170 : Int) : Int × Bytes → Option ((Int × Bytes) ⊕ (Bytes)) := fun (v171, v178) =>
 if (decide (v171 < v170)) then
  idx v165 v171 >>= fun x206 =>
  shr .u8 c_164 x206 >>= fun i208 =>
  b8 (IntKind.wrap .u8 ((48 : Int) + (band .u8 i208 (7 : Int)))) >>= fun c209 =>
  app 1 v178 [c209] >>= fun t210 =>
  some (Sum.inl ((IntKind.wrap .i64 (v171 + (1 : Int))), t210))
 else
  some (Sum.inr v178)
theorem G_lex_Show_L3_ok {κ : Kt} {t : Blk κ} {c_164 : Int} {v165 : List Int} {v170 : Int} {v186 : Int} {v187 : Bytes} {v188 : Int} {v189 : Int} {v190 : Bytes} {v191 : Int} {o166 : Own} {e167 : Nat} {M168 : List (List PV)} {b177 : Nat} {b185 : Nat} (v171 : Int) (v178 : Bytes) (x : Bytes) (hx : loopO (G_lex_Show_L3 c_164 v165 v170) (v171, v178) = some x) (s169 : SlR 1 (RI .i64) o166 e167 v165 M168) : ∀ (f172 : Fr) (h173 : Heap) (a179 : PV) (o180 : Own) (e181 : Nat) (M182 : List (List PV)), (f172 0 = (.ptr b177 0) ∧ f172 1 = (.int .u8 c_164) ∧ f172 8 = (.slice o166 e167 M168) ∧ f172 9 = (.int .i64 v170) ∧ f172 10 = (.int .i64 v171)) → (h173.bty b177 = T_strings_Builder ∧ h173.box b177 = some [a179, (.slice o180 e181 M182)] ∧ h173.box b185 = some [(.int .i64 v186), (.str v187), (.int .i64 v188), (.int .i64 v189), (.str v190), (.int .i64 v191)] ∧ OwnOK h173 o166 ∧ OwnOK h173 o180 ∧ Dis o180 o166) → (b177 < b185 ∧ b185 < h173.n) → SlR 1 R8 o180 e181 v178 M182 → BdA b177 a179 o180 v178 → (∀ (f223 : Fr) (h224 : Heap) (v228 : Bytes) (a229 : PV) (o230 : Own) (e231 : Nat) (M232 : List (List PV)), v228 = x → (h224.bty b177 = T_strings_Builder ∧ h224.box b177 = some [a229, (.slice o230 e231 M232)] ∧ h224.box b185 = some [(.int .i64 v186), (.str v187), (.int .i64 v188), (.int .i64 v189), (.str v190), (.int .i64 v191)] ∧ OwnOK h224 o230) → (b177 < b185 ∧ b185 < h224.n) → SlR 1 R8 o230 e231 v228 M232 → BdA b177 a229 o230 v228 → κ.B 0 f223 h224) → Lq E (.loop L_lex_escaped_1) κ t f172 h173 := by
 revert v171 v178 x
 refine loop2' ?_
 intro v171 v178 r hb x hn f172 h173 a179 o180 e181 M182 Y174 Y175 Y176 s183 s184 ex0
 dsimp only [G_lex_Show_L3] at hb
 refine loop_step L_lex_escaped_1.eq_1 ?_
 have X := And.intro Y174 (And.intro Y175 (And.intro s169.len (s183.len)))
 refine Tw ?_
 refine Tw ?_
 refine bq_if hb rfl (fun c205 hb => ?_) (fun c205 hb => ?_)
 ·have X := And.intro c205 X
  refine Tw ?_
  refine vq_iaddr s169 hb (fun x206 cs207 hx206 hb hcs207 => ?_)
  cases (show cs207 = [(.int .i64 x206)] from hcs207)
  refine Tw ?_
  refine vq_shr hb (fun i208 hi208 hb => ?_)
  refine b8b1 hb (fun c209 hc209 ec209 hb => ?_)
  refine Tw ?_
  refine fq_wb Cw Cw s184 s183 Cw hc209 hb (fun t210 o211 M212 h213 ht210 hb s214 s215 O216 F217 z218 => ?_)
  have q219 := F217.n
  try simp only [HN] at q219
  obtain ⟨O220, D221⟩ := F217.keep o166 Cw Cw
  have hb := Option.some.inj hb
  subst hb
  have X := And.intro F217.box (And.intro F217.loop (And.intro F217.bty (And.intro z218 (And.intro O216 (And.intro O220 (And.intro D221 X))))))
  refine Tw ?_
  exact hn _ _ (.ptr b177 0) o211 1 M212 Cw Cw Cn s214 s215 ex0
 ·have hb := Option.some.inj hb
  subst hb
  have hn : _ = _ := hn
  subst hn
  have X := And.intro c205 X
  refine Tw ?_
  exact ex0 _ _ v178 a179 o180 e181 M182 rfl Cw Cn s183 s184
def G_lex_Show_L2 (v109 : Int) (v126 : Bytes) : Int × Bytes → Option ((Int × Bytes) ⊕ (Bytes)) := fun (v110, v117) =>
 if (decide (v110 < v109)) then
  idx v126 v110 >>= fun x142 =>
  app 1 v117 [(92 : UInt8)] >>= fun t143 =>
  loopO (G_lex_Show_L3 (x142.toNat : Int) ([(6 : Int), (3 : Int), (0 : Int)] : List Int) ((List.length ([(6 : Int), (3 : Int), (0 : Int)] : List Int) : Nat) : Int)) ((0 : Int), t143) >>= fun v228 =>
  some (Sum.inl ((IntKind.wrap .i64 (v110 + (1 : Int))), v228))
 else
  some (Sum.inr v117)
theorem G_lex_Show_L2_ok {κ : Kt} {t : Blk κ} {v109 : Int} {v125 : Int} {v126 : Bytes} {v127 : Int} {v128 : Int} {v129 : Bytes} {v130 : Int} {b116 : Nat} {b124 : Nat} (v110 : Int) (v117 : Bytes) (x : Bytes) (hx : loopO (G_lex_Show_L2 v109 v126) (v110, v117) = some x) : ∀ (f111 : Fr) (h112 : Heap) (a118 : PV) (o119 : Own) (e120 : Nat) (M121 : List (List PV)), (f111 0 = (.ptr b116 0) ∧ f111 3 = (.ptr b124 0) ∧ f111 26 = (.int .i64 v109) ∧ f111 27 = (.int .i64 v110)) → (h112.bty b116 = T_strings_Builder ∧ h112.box b116 = some [a118, (.slice o119 e120 M121)] ∧ h112.box b124 = some [(.int .i64 v125), (.str v126), (.int .i64 v127), (.int .i64 v128), (.str v129), (.int .i64 v130)] ∧ OwnOK h112 o119) → (b116 < b124 ∧ b124 < h112.n) → SlR 1 R8 o119 e120 v117 M121 → BdA b116 a118 o119 v117 → (∀ (f243 : Fr) (h244 : Heap) (v248 : Bytes) (a249 : PV) (o250 : Own) (e251 : Nat) (M252 : List (List PV)), v248 = x → (f243 0 = (.ptr b116 0) ∧ h244.bty b116 = T_strings_Builder ∧ h244.box b116 = some [a249, (.slice o250 e251 M252)] ∧ h244.box b124 = some [(.int .i64 v125), (.str v126), (.int .i64 v127), (.int .i64 v128), (.str v129), (.int .i64 v130)] ∧ OwnOK h244 o250) → (b116 < b124 ∧ b124 < h244.n) → SlR 1 R8 o250 e251 v248 M252 → BdA b116 a249 o250 v248 → κ.B 1 f243 h244) → Lq E (.loop L_lex_show_1) κ t f111 h112 := by
 revert v110 v117 x
 refine loop2' ?_
 intro v110 v117 r hb x hn f111 h112 a118 o119 e120 M121 Y113 Y114 Y115 s122 s123 ex0
 dsimp only [G_lex_Show_L2] at hb
 refine loop_step L_lex_show_1.eq_1 ?_
 have X := And.intro Y113 (And.intro Y114 (s122.len))
 refine Tw ?_
 refine Tw ?_
 refine bq_if hb rfl (fun c141 hb => ?_) (fun c141 hb => ?_)
 ·have X := And.intro c141 X
  refine Tw ?_
  refine vq_idxS hb (fun x142 hx142 hb => ?_)
  refine Tw ?_
  refine fq_in fn_lex_escaped (by rfl) ?_
  refine Tw ?_
  refine fq_wb Cw Cw s123 s122 Cw (by rfl) hb (fun t143 o144 M145 h146 ht143 hb s147 s148 O149 F150 z151 => ?_)
  have q152 := F150.n
  try simp only [HN] at q152
  have X := And.intro F150.box (And.intro F150.loop (And.intro F150.bty (And.intro z151 (And.intro O149 X))))
  refine Tw ?_
  refine vq_new rfl (fun o154 h155 n159 O156 F157 => ?_)
  have q158 := F157.n
  try simp only [HN] at q158
  have s160 : SlR 1 (RI .i64) o154 1 ([(6 : Int), (3 : Int), (0 : Int)] : List Int) [[(.int .i64 (6 : Int))], [(.int .i64 (3 : Int))], [(.int .i64 (0 : Int))]] := (slr_cons n159 rfl (slr_cons n159 rfl (slr_cons n159 rfl (slr_0 (R := (RI .i64))))))
  obtain ⟨O161, D162⟩ := F157.keep o144 Cw Cw
  have X := And.intro F157.box (And.intro F157.loop (And.intro F157.bty (And.intro O156 (And.intro O161 (And.intro D162 X)))))
  refine Tw ?_
  refine bnd1 hb (fun q236 h237 hb => ?_)
  refine G_lex_Show_L3_ok (o166 := o154) (e167 := 1) (M168 := [[(.int .i64 (6 : Int))], [(.int .i64 (3 : Int))], [(.int .i64 (0 : Int))]]) (v186 := v125) (v187 := v126) (v188 := v127) (v189 := v128) (v190 := v129) (v191 := v130) (b177 := b116) (b185 := b124) _ _ _ h237 s160 _ _ (.ptr b116 0) o144 1 M145 Cw Cw Cn s147 s148 ?_
  ·intro f223 h224 v228 a229 o230 e231 M232 ex Y225 Y227 s233 s234
   subst ex
   have X := And.intro Y225 (And.intro s233.len X)
   refine Tw ?_
   have hb := Option.some.inj hb
   subst hb
   refine Tw ?_
   exact hn _ _ a229 o230 e231 M232 Cw Cw Cn s233 s234 ex0
 ·have hb := Option.some.inj hb
  subst hb
  have hn : _ = _ := hn
  subst hn
  have X := And.intro c141 X
  refine Tw ?_
  exact ex0 _ _ v117 a118 o119 e120 M121 rfl Cw Cn s122 s123
def G_lex_Show_L4 (c_339 : Int) (v340 : List Int) (v345 : Int) : Int × Bytes → Option ((Int × Bytes) ⊕ (Bytes)) := fun (v346, v353) =>
 if (decide (v346 < v345)) then
  idx v340 v346 >>= fun x373 =>
  shr .u8 c_339 x373 >>= fun i375 =>
  b8 (IntKind.wrap .u8 ((48 : Int) + (band .u8 i375 (7 : Int)))) >>= fun c376 =>
  app 1 v353 [c376] >>= fun t377 =>
  some (Sum.inl ((IntKind.wrap .i64 (v346 + (1 : Int))), t377))
 else
  some (Sum.inr v353)
theorem G_lex_Show_L4_ok {κ : Kt} {t : Blk κ} {c_339 : Int} {v340 : List Int} {v345 : Int} {o341 : Own} {e342 : Nat} {M343 : List (List PV)} {b352 : Nat} (v346 : Int) (v353 : Bytes) (x : Bytes) (hx : loopO (G_lex_Show_L4 c_339 v340 v345) (v346, v353) = some x) (s344 : SlR 1 (RI .i64) o341 e342 v340 M343) : ∀ (f347 : Fr) (h348 : Heap) (a354 : PV) (o355 : Own) (e356 : Nat) (M357 : List (List PV)), (f347 0 = (.ptr b352 0) ∧ f347 1 = (.int .u8 c_339) ∧ f347 8 = (.slice o341 e342 M343) ∧ f347 9 = (.int .i64 v345) ∧ f347 10 = (.int .i64 v346)) → (h348.bty b352 = T_strings_Builder ∧ h348.box b352 = some [a354, (.slice o355 e356 M357)] ∧ OwnOK h348 o341 ∧ OwnOK h348 o355 ∧ Dis o355 o341) → (b352 < h348.n) → SlR 1 R8 o355 e356 v353 M357 → BdA b352 a354 o355 v353 → (∀ (f390 : Fr) (h391 : Heap) (v395 : Bytes) (a396 : PV) (o397 : Own) (e398 : Nat) (M399 : List (List PV)), v395 = x → (h391.bty b352 = T_strings_Builder ∧ h391.box b352 = some [a396, (.slice o397 e398 M399)] ∧ OwnOK h391 o397) → (b352 < h391.n) → SlR 1 R8 o397 e398 v395 M399 → BdA b352 a396 o397 v395 → κ.B 0 f390 h391) → Lq E (.loop L_lex_escaped_1) κ t f347 h348 := by
 revert v346 v353 x
 refine loop2' ?_
 intro v346 v353 r hb x hn f347 h348 a354 o355 e356 M357 Y349 Y350 Y351 s358 s359 ex0
 dsimp only [G_lex_Show_L4] at hb
 refine loop_step L_lex_escaped_1.eq_1 ?_
 have X := And.intro Y349 (And.intro Y350 (And.intro s344.len (s358.len)))
 refine Tw ?_
 refine Tw ?_
 refine bq_if hb rfl (fun c372 hb => ?_) (fun c372 hb => ?_)
 ·have X := And.intro c372 X
  refine Tw ?_
  refine vq_iaddr s344 hb (fun x373 cs374 hx373 hb hcs374 => ?_)
  cases (show cs374 = [(.int .i64 x373)] from hcs374)
  refine Tw ?_
  refine vq_shr hb (fun i375 hi375 hb => ?_)
  refine b8b1 hb (fun c376 hc376 ec376 hb => ?_)
  refine Tw ?_
  refine fq_wb Cw Cw s359 s358 Cw hc376 hb (fun t377 o378 M379 h380 ht377 hb s381 s382 O383 F384 z385 => ?_)
  have q386 := F384.n
  try simp only [HN] at q386
  obtain ⟨O387, D388⟩ := F384.keep o341 Cw Cw
  have hb := Option.some.inj hb
  subst hb
  have X := And.intro F384.box (And.intro F384.loop (And.intro F384.bty (And.intro z385 (And.intro O383 (And.intro O387 (And.intro D388 X))))))
  refine Tw ?_
  exact hn _ _ (.ptr b352 0) o378 1 M379 Cw Cw Cn s381 s382 ex0
 ·have hb := Option.some.inj hb
  subst hb
  have hn : _ = _ := hn
  subst hn
  have X := And.intro c372 X
  refine Tw ?_
  exact ex0 _ _ v353 a354 o355 e356 M357 rfl Cw Cn s358 s359
def G_lex_Show_L6 (c_513 : Int) (v514 : List Int) (v519 : Int) : Int × Bytes → Option ((Int × Bytes) ⊕ (Bytes)) := fun (v520, v527) =>
 if (decide (v520 < v519)) then
  idx v514 v520 >>= fun x555 =>
  shr .u8 c_513 x555 >>= fun i557 =>
  b8 (IntKind.wrap .u8 ((48 : Int) + (band .u8 i557 (7 : Int)))) >>= fun c558 =>
  app 1 v527 [c558] >>= fun t559 =>
  some (Sum.inl ((IntKind.wrap .i64 (v520 + (1 : Int))), t559))
 else
  some (Sum.inr v527)
theorem G_lex_Show_L6_ok {κ : Kt} {t : Blk κ} {c_513 : Int} {v514 : List Int} {v519 : Int} {v535 : Int} {v536 : Bytes} {v537 : Int} {v538 : Int} {v539 : Bytes} {v540 : Int} {o515 : Own} {e516 : Nat} {M517 : List (List PV)} {b526 : Nat} {b534 : Nat} (v520 : Int) (v527 : Bytes) (x : Bytes) (hx : loopO (G_lex_Show_L6 c_513 v514 v519) (v520, v527) = some x) (s518 : SlR 1 (RI .i64) o515 e516 v514 M517) : ∀ (f521 : Fr) (h522 : Heap) (a528 : PV) (o529 : Own) (e530 : Nat) (M531 : List (List PV)), (f521 0 = (.ptr b526 0) ∧ f521 1 = (.int .u8 c_513) ∧ f521 8 = (.slice o515 e516 M517) ∧ f521 9 = (.int .i64 v519) ∧ f521 10 = (.int .i64 v520)) → (h522.bty b526 = T_strings_Builder ∧ h522.box b526 = some [a528, (.slice o529 e530 M531)] ∧ h522.box b534 = some [(.int .i64 v535), (.str v536), (.int .i64 v537), (.int .i64 v538), (.str v539), (.int .i64 v540)] ∧ OwnOK h522 o515 ∧ OwnOK h522 o529 ∧ Dis o529 o515) → (b526 < b534 ∧ b534 < h522.n) → SlR 1 R8 o529 e530 v527 M531 → BdA b526 a528 o529 v527 → (∀ (f572 : Fr) (h573 : Heap) (v577 : Bytes) (a578 : PV) (o579 : Own) (e580 : Nat) (M581 : List (List PV)), v577 = x → (h573.bty b526 = T_strings_Builder ∧ h573.box b526 = some [a578, (.slice o579 e580 M581)] ∧ h573.box b534 = some [(.int .i64 v535), (.str v536), (.int .i64 v537), (.int .i64 v538), (.str v539), (.int .i64 v540)] ∧ OwnOK h573 o579) → (b526 < b534 ∧ b534 < h573.n) → SlR 1 R8 o579 e580 v577 M581 → BdA b526 a578 o579 v577 → κ.B 0 f572 h573) → Lq E (.loop L_lex_escaped_1) κ t f521 h522 := by
 revert v520 v527 x
 refine loop2' ?_
 intro v520 v527 r hb x hn f521 h522 a528 o529 e530 M531 Y523 Y524 Y525 s532 s533 ex0
 dsimp only [G_lex_Show_L6] at hb
 refine loop_step L_lex_escaped_1.eq_1 ?_
 have X := And.intro Y523 (And.intro Y524 (And.intro s518.len (s532.len)))
 refine Tw ?_
 refine Tw ?_
 refine bq_if hb rfl (fun c554 hb => ?_) (fun c554 hb => ?_)
 ·have X := And.intro c554 X
  refine Tw ?_
  refine vq_iaddr s518 hb (fun x555 cs556 hx555 hb hcs556 => ?_)
  cases (show cs556 = [(.int .i64 x555)] from hcs556)
  refine Tw ?_
  refine vq_shr hb (fun i557 hi557 hb => ?_)
  refine b8b1 hb (fun c558 hc558 ec558 hb => ?_)
  refine Tw ?_
  refine fq_wb Cw Cw s533 s532 Cw hc558 hb (fun t559 o560 M561 h562 ht559 hb s563 s564 O565 F566 z567 => ?_)
  have q568 := F566.n
  try simp only [HN] at q568
  obtain ⟨O569, D570⟩ := F566.keep o515 Cw Cw
  have hb := Option.some.inj hb
  subst hb
  have X := And.intro F566.box (And.intro F566.loop (And.intro F566.bty (And.intro z567 (And.intro O565 (And.intro O569 (And.intro D570 X))))))
  refine Tw ?_
  exact hn _ _ (.ptr b526 0) o560 1 M561 Cw Cw Cn s563 s564 ex0
 ·have hb := Option.some.inj hb
  subst hb
  have hn : _ = _ := hn
  subst hn
  have X := And.intro c554 X
  refine Tw ?_
  exact ex0 _ _ v527 a528 o529 e530 M531 rfl Cw Cn s532 s533
def G_lex_Show_L5 (v458 : Int) (v475 : Bytes) : Int × Bytes → Option ((Int × Bytes) ⊕ (Bytes)) := fun (v459, v466) =>
 if (decide (v459 < v458)) then
  idx v475 v459 >>= fun x491 =>
  app 1 v466 [(92 : UInt8)] >>= fun t492 =>
  loopO (G_lex_Show_L6 (x491.toNat : Int) ([(6 : Int), (3 : Int), (0 : Int)] : List Int) ((List.length ([(6 : Int), (3 : Int), (0 : Int)] : List Int) : Nat) : Int)) ((0 : Int), t492) >>= fun v577 =>
  some (Sum.inl ((IntKind.wrap .i64 (v459 + (1 : Int))), v577))
 else
  some (Sum.inr v466)
theorem G_lex_Show_L5_ok {κ : Kt} {t : Blk κ} {v458 : Int} {v474 : Int} {v475 : Bytes} {v476 : Int} {v477 : Int} {v478 : Bytes} {v479 : Int} {b465 : Nat} {b473 : Nat} (v459 : Int) (v466 : Bytes) (x : Bytes) (hx : loopO (G_lex_Show_L5 v458 v475) (v459, v466) = some x) : ∀ (f460 : Fr) (h461 : Heap) (a467 : PV) (o468 : Own) (e469 : Nat) (M470 : List (List PV)), (f460 0 = (.ptr b465 0) ∧ f460 3 = (.ptr b473 0) ∧ f460 26 = (.int .i64 v458) ∧ f460 27 = (.int .i64 v459)) → (h461.bty b465 = T_strings_Builder ∧ h461.box b465 = some [a467, (.slice o468 e469 M470)] ∧ h461.box b473 = some [(.int .i64 v474), (.str v475), (.int .i64 v476), (.int .i64 v477), (.str v478), (.int .i64 v479)] ∧ OwnOK h461 o468) → (b465 < b473 ∧ b473 < h461.n) → SlR 1 R8 o468 e469 v466 M470 → BdA b465 a467 o468 v466 → (∀ (f592 : Fr) (h593 : Heap) (v597 : Bytes) (a598 : PV) (o599 : Own) (e600 : Nat) (M601 : List (List PV)), v597 = x → (f592 0 = (.ptr b465 0) ∧ h593.bty b465 = T_strings_Builder ∧ h593.box b465 = some [a598, (.slice o599 e600 M601)] ∧ h593.box b473 = some [(.int .i64 v474), (.str v475), (.int .i64 v476), (.int .i64 v477), (.str v478), (.int .i64 v479)] ∧ OwnOK h593 o599) → (b465 < b473 ∧ b473 < h593.n) → SlR 1 R8 o599 e600 v597 M601 → BdA b465 a598 o599 v597 → κ.B 1 f592 h593) → Lq E (.loop L_lex_show_1) κ t f460 h461 := by
 revert v459 v466 x
 refine loop2' ?_
 intro v459 v466 r hb x hn f460 h461 a467 o468 e469 M470 Y462 Y463 Y464 s471 s472 ex0
 dsimp only [G_lex_Show_L5] at hb
 refine loop_step L_lex_show_1.eq_1 ?_
 have X := And.intro Y462 (And.intro Y463 (s471.len))
 refine Tw ?_
 refine Tw ?_
 refine bq_if hb rfl (fun c490 hb => ?_) (fun c490 hb => ?_)
 ·have X := And.intro c490 X
  refine Tw ?_
  refine vq_idxS hb (fun x491 hx491 hb => ?_)
  refine Tw ?_
  refine fq_in fn_lex_escaped (by rfl) ?_
  refine Tw ?_
  refine fq_wb Cw Cw s472 s471 Cw (by rfl) hb (fun t492 o493 M494 h495 ht492 hb s496 s497 O498 F499 z500 => ?_)
  have q501 := F499.n
  try simp only [HN] at q501
  have X := And.intro F499.box (And.intro F499.loop (And.intro F499.bty (And.intro z500 (And.intro O498 X))))
  refine Tw ?_
  refine vq_new rfl (fun o503 h504 n508 O505 F506 => ?_)
  have q507 := F506.n
  try simp only [HN] at q507
  have s509 : SlR 1 (RI .i64) o503 1 ([(6 : Int), (3 : Int), (0 : Int)] : List Int) [[(.int .i64 (6 : Int))], [(.int .i64 (3 : Int))], [(.int .i64 (0 : Int))]] := (slr_cons n508 rfl (slr_cons n508 rfl (slr_cons n508 rfl (slr_0 (R := (RI .i64))))))
  obtain ⟨O510, D511⟩ := F506.keep o493 Cw Cw
  have X := And.intro F506.box (And.intro F506.loop (And.intro F506.bty (And.intro O505 (And.intro O510 (And.intro D511 X)))))
  refine Tw ?_
  refine bnd1 hb (fun q585 h586 hb => ?_)
  refine G_lex_Show_L6_ok (o515 := o503) (e516 := 1) (M517 := [[(.int .i64 (6 : Int))], [(.int .i64 (3 : Int))], [(.int .i64 (0 : Int))]]) (v535 := v474) (v536 := v475) (v537 := v476) (v538 := v477) (v539 := v478) (v540 := v479) (b526 := b465) (b534 := b473) _ _ _ h586 s509 _ _ (.ptr b465 0) o493 1 M494 Cw Cw Cn s496 s497 ?_
  ·intro f572 h573 v577 a578 o579 e580 M581 ex Y574 Y576 s582 s583
   subst ex
   have X := And.intro Y574 (And.intro s582.len X)
   refine Tw ?_
   have hb := Option.some.inj hb
   subst hb
   refine Tw ?_
   exact hn _ _ a578 o579 e580 M581 Cw Cw Cn s582 s583 ex0
 ·have hb := Option.some.inj hb
  subst hb
  have hn : _ = _ := hn
  subst hn
  have X := And.intro c490 X
  refine Tw ?_
  exact ex0 _ _ v466 a467 o468 e469 M470 rfl Cw Cn s471 s472
def G_lex_Show_L7 (c_688 : Int) (v689 : List Int) (v694 : Int) : Int × Bytes → Option ((Int × Bytes) ⊕ (Bytes)) := fun (v695, v702) =>
 if (decide (v695 < v694)) then
  idx v689 v695 >>= fun x722 =>
  shr .u8 c_688 x722 >>= fun i724 =>
  b8 (IntKind.wrap .u8 ((48 : Int) + (band .u8 i724 (7 : Int)))) >>= fun c725 =>
  app 1 v702 [c725] >>= fun t726 =>
  some (Sum.inl ((IntKind.wrap .i64 (v695 + (1 : Int))), t726))
 else
  some (Sum.inr v702)
theorem G_lex_Show_L7_ok {κ : Kt} {t : Blk κ} {c_688 : Int} {v689 : List Int} {v694 : Int} {o690 : Own} {e691 : Nat} {M692 : List (List PV)} {b701 : Nat} (v695 : Int) (v702 : Bytes) (x : Bytes) (hx : loopO (G_lex_Show_L7 c_688 v689 v694) (v695, v702) = some x) (s693 : SlR 1 (RI .i64) o690 e691 v689 M692) : ∀ (f696 : Fr) (h697 : Heap) (a703 : PV) (o704 : Own) (e705 : Nat) (M706 : List (List PV)), (f696 0 = (.ptr b701 0) ∧ f696 1 = (.int .u8 c_688) ∧ f696 8 = (.slice o690 e691 M692) ∧ f696 9 = (.int .i64 v694) ∧ f696 10 = (.int .i64 v695)) → (h697.bty b701 = T_strings_Builder ∧ h697.box b701 = some [a703, (.slice o704 e705 M706)] ∧ OwnOK h697 o690 ∧ OwnOK h697 o704 ∧ Dis o704 o690) → (b701 < h697.n) → SlR 1 R8 o704 e705 v702 M706 → BdA b701 a703 o704 v702 → (∀ (f739 : Fr) (h740 : Heap) (v744 : Bytes) (a745 : PV) (o746 : Own) (e747 : Nat) (M748 : List (List PV)), v744 = x → (h740.bty b701 = T_strings_Builder ∧ h740.box b701 = some [a745, (.slice o746 e747 M748)] ∧ OwnOK h740 o746) → (b701 < h740.n) → SlR 1 R8 o746 e747 v744 M748 → BdA b701 a745 o746 v744 → κ.B 0 f739 h740) → Lq E (.loop L_lex_escaped_1) κ t f696 h697 := by
 revert v695 v702 x
 refine loop2' ?_
 intro v695 v702 r hb x hn f696 h697 a703 o704 e705 M706 Y698 Y699 Y700 s707 s708 ex0
 dsimp only [G_lex_Show_L7] at hb
 refine loop_step L_lex_escaped_1.eq_1 ?_
 have X := And.intro Y698 (And.intro Y699 (And.intro s693.len (s707.len)))
 refine Tw ?_
 refine Tw ?_
 refine bq_if hb rfl (fun c721 hb => ?_) (fun c721 hb => ?_)
 ·have X := And.intro c721 X
  refine Tw ?_
  refine vq_iaddr s693 hb (fun x722 cs723 hx722 hb hcs723 => ?_)
  cases (show cs723 = [(.int .i64 x722)] from hcs723)
  refine Tw ?_
  refine vq_shr hb (fun i724 hi724 hb => ?_)
  refine b8b1 hb (fun c725 hc725 ec725 hb => ?_)
  refine Tw ?_
  refine fq_wb Cw Cw s708 s707 Cw hc725 hb (fun t726 o727 M728 h729 ht726 hb s730 s731 O732 F733 z734 => ?_)
  have q735 := F733.n
  try simp only [HN] at q735
  obtain ⟨O736, D737⟩ := F733.keep o690 Cw Cw
  have hb := Option.some.inj hb
  subst hb
  have X := And.intro F733.box (And.intro F733.loop (And.intro F733.bty (And.intro z734 (And.intro O732 (And.intro O736 (And.intro D737 X))))))
  refine Tw ?_
  exact hn _ _ (.ptr b701 0) o727 1 M728 Cw Cw Cn s730 s731 ex0
 ·have hb := Option.some.inj hb
  subst hb
  have hn : _ = _ := hn
  subst hn
  have X := And.intro c721 X
  refine Tw ?_
  exact ex0 _ _ v702 a703 o704 e705 M706 rfl Cw Cn s707 s708
def G_lex_Show_L1 (l_11 : List T_api_Word) (v16 : List T_api_Word) (v21 : Int) : Int × Bytes → Option ((Int × Bytes) ⊕ (Ex2 (Bytes) (Bytes))) := fun (v22, v29) =>
 if (decide (v22 < v21)) then
  idx v16 v22 >>= fun x47 =>
  (
   G_lex_Right x47 >>= fun r55 =>
   if (!r55) then
    some (Ex2.a (Sum.inr (Ex2.a v29)))
   else
    if (decide ((0 : Int) < v22)) then
     if (x47.Kind_ == (4 : Int)) then
      idx l_11 (IntKind.wrap .i64 (v22 - (1 : Int))) >>= fun x61 =>
      if (x61.Kind_ == (4 : Int)) then
       some (Ex2.a (Sum.inr (Ex2.a v29)))
      else
       some (Ex2.b ())
     else
      some (Ex2.b ())
    else
     some (Ex2.b ())
  ) >>= fun j71 => match j71 with
   | .a q => some q
   | .b () =>
    if (decide ((0 : Int) < v22)) then
     app 1 v29 [(32 : UInt8)] >>= fun t84 =>
     if (x47.Kind_ == (4 : Int)) then
      app 1 t84 [(34 : UInt8)] >>= fun t98 =>
      loopO (G_lex_Show_L2 ((List.length x47.S_ : Nat) : Int) x47.S_) ((0 : Int), t98) >>= fun v248 =>
      app 1 v248 [(34 : UInt8)] >>= fun t264 =>
      some (Sum.inl ((IntKind.wrap .i64 (v22 + (1 : Int))), t264))
     else
      if (!(x47.Kind_ == (3 : Int))) then
       app 1 t84 x47.S_ >>= fun t276 =>
       some (Sum.inl ((IntKind.wrap .i64 (v22 + (1 : Int))), t276))
      else
       (
        if (x47.T_ == (5 : Int)) then
         some (decide (x47.V_ < (0 : Int)))
        else
         some false
       ) >>= fun v291 =>
       if v291 then
        app 1 t84 [(39 : UInt8)] >>= fun t307 =>
        app 1 t307 [(92 : UInt8)] >>= fun t318 =>
        loopO (G_lex_Show_L4 (IntKind.wrap .u8 x47.V_) ([(6 : Int), (3 : Int), (0 : Int)] : List Int) ((List.length ([(6 : Int), (3 : Int), (0 : Int)] : List Int) : Nat) : Int)) ((0 : Int), t318) >>= fun v395 =>
        app 1 v395 [(39 : UInt8)] >>= fun t409 =>
        some (Sum.inl ((IntKind.wrap .i64 (v22 + (1 : Int))), t409))
       else
        oFormatUint (IntKind.wrap .u64 x47.V_) (10 : Int) >>= fun r420 =>
        app 1 t84 r420 >>= fun t422 =>
        idx ([([] : Bytes), ([117] : Bytes), ([108] : Bytes), ([117, 108] : Bytes)] : List Bytes) (IntKind.wrap .i64 (x47.T_ - (5 : Int))) >>= fun x433 =>
        app 1 t422 x433 >>= fun t434 =>
        some (Sum.inl ((IntKind.wrap .i64 (v22 + (1 : Int))), t434))
    else
     if (x47.Kind_ == (4 : Int)) then
      app 1 v29 [(34 : UInt8)] >>= fun t447 =>
      loopO (G_lex_Show_L5 ((List.length x47.S_ : Nat) : Int) x47.S_) ((0 : Int), t447) >>= fun v597 =>
      app 1 v597 [(34 : UInt8)] >>= fun t613 =>
      some (Sum.inl ((IntKind.wrap .i64 (v22 + (1 : Int))), t613))
     else
      if (!(x47.Kind_ == (3 : Int))) then
       app 1 v29 x47.S_ >>= fun t625 =>
       some (Sum.inl ((IntKind.wrap .i64 (v22 + (1 : Int))), t625))
      else
       (
        if (x47.T_ == (5 : Int)) then
         some (decide (x47.V_ < (0 : Int)))
        else
         some false
       ) >>= fun v640 =>
       if v640 then
        app 1 v29 [(39 : UInt8)] >>= fun t656 =>
        app 1 t656 [(92 : UInt8)] >>= fun t667 =>
        loopO (G_lex_Show_L7 (IntKind.wrap .u8 x47.V_) ([(6 : Int), (3 : Int), (0 : Int)] : List Int) ((List.length ([(6 : Int), (3 : Int), (0 : Int)] : List Int) : Nat) : Int)) ((0 : Int), t667) >>= fun v744 =>
        app 1 v744 [(39 : UInt8)] >>= fun t758 =>
        some (Sum.inl ((IntKind.wrap .i64 (v22 + (1 : Int))), t758))
       else
        oFormatUint (IntKind.wrap .u64 x47.V_) (10 : Int) >>= fun r769 =>
        app 1 v29 r769 >>= fun t771 =>
        idx ([([] : Bytes), ([117] : Bytes), ([108] : Bytes), ([117, 108] : Bytes)] : List Bytes) (IntKind.wrap .i64 (x47.T_ - (5 : Int))) >>= fun x782 =>
        app 1 t771 x782 >>= fun t783 =>
        some (Sum.inl ((IntKind.wrap .i64 (v22 + (1 : Int))), t783))
 else
  some (Sum.inr (Ex2.b v29))
theorem G_lex_Show_L1_ok {κ : Kt} {t : Blk κ} {l_11 : List T_api_Word} {v16 : List T_api_Word} {v21 : Int} {o12 : Own} {e13 : Nat} {M14 : List (List PV)} {o17 : Own} {e18 : Nat} {M19 : List (List PV)} {b28 : Nat} (v22 : Int) (v29 : Bytes) (x : Ex2 (Bytes) (Bytes)) (hx : loopO (G_lex_Show_L1 l_11 v16 v21) (v22, v29) = some x) (s15 : SlR 6 T_api_Word.R o12 e13 l_11 M14) (s20 : SlR 6 T_api_Word.R o17 e18 v16 M19) : ∀ (f23 : Fr) (h24 : Heap) (a30 : PV) (o31 : Own) (e32 : Nat) (M33 : List (List PV)), (f23 0 = (.slice o12 e13 M14) ∧ f23 4 = (.ptr b28 0) ∧ f23 7 = (.slice o17 e18 M19) ∧ f23 8 = (.int .i64 v21) ∧ f23 9 = (.int .i64 v22)) → (h24.bty b28 = T_strings_Builder ∧ h24.box b28 = some [a30, (.slice o31 e32 M33)] ∧ OwnOK h24 o31) → (b28 < h24.n) → SlR 1 R8 o31 e32 v29 M33 → BdA b28 a30 o31 v29 → (∀ (f794 : Fr) (h795 : Heap) (v799 : Bytes) (a800 : PV) (o801 : Own) (e802 : Nat) (M803 : List (List PV)), Ex2.a v799 = x → (f794 2 = (.str ([] : Bytes)) ∧ f794 3 = (.int .i64 (2 : Int)) ∧ h795.bty b28 = T_strings_Builder ∧ h795.box b28 = some [a800, (.slice o801 e802 M803)] ∧ OwnOK h795 o801) → (b28 < h795.n) → SlR 1 R8 o801 e802 v799 M803 → BdA b28 a800 o801 v799 → κ.R f794 h795) → (∀ (f807 : Fr) (h808 : Heap) (v812 : Bytes) (a813 : PV) (o814 : Own) (e815 : Nat) (M816 : List (List PV)), Ex2.b v812 = x → (f807 4 = (.ptr b28 0) ∧ h808.bty b28 = T_strings_Builder ∧ h808.box b28 = some [a813, (.slice o814 e815 M816)] ∧ OwnOK h808 o814) → (b28 < h808.n) → SlR 1 R8 o814 e815 v812 M816 → BdA b28 a813 o814 v812 → κ.B 0 f807 h808) → Lq E (.loop L_lex_Show_1) κ t f23 h24 := by
 revert v22 v29 x
 refine loop2' ?_
 intro v22 v29 r hb x hn f23 h24 a30 o31 e32 M33 Y25 Y26 Y27 s34 s35 ex0 ex1
 dsimp only [G_lex_Show_L1] at hb
 refine loop_step L_lex_Show_1.eq_1 ?_
 have X := And.intro Y25 (And.intro Y26 (And.intro s15.len (And.intro s20.len (s34.len))))
 refine Tw ?_
 refine Tw ?_
 refine bq_if hb rfl (fun c46 hb => ?_) (fun c46 hb => ?_)
 ·have X := And.intro c46 X
  refine Tw ?_
  refine vq_iaddr s20 hb (fun x47 cs48 hx47 hb hcs48 => ?_)
  cases (show cs48 = [(.int .i64 x47.Kind_), (.str x47.S_), (.int .i64 x47.V_), (.int .i64 x47.T_), (.str x47.File_), (.int .i64 x47.Line_)] from hcs48)
  refine Tw ?_
  refine bnd1 hb (fun j71 hj hb => ?_)
  refine wq_join (fun Z => ∀ (f65 : Fr) (h66 : Heap), Ex2.b () = j71 → (f65 0 = (.slice o12 e13 M14) ∧ f65 4 = (.ptr b28 0) ∧ f65 5 = (.int .i64 v22) ∧ f65 6 = (.ptr h24.n 0) ∧ f65 7 = (.slice o17 e18 M19) ∧ f65 8 = (.int .i64 v21) ∧ f65 9 = (.int .i64 v22) ∧ h66.bty b28 = T_strings_Builder ∧ h66.box b28 = some [a30, (.slice o31 e32 M33)] ∧ h66.box h24.n = some [(.int .i64 x47.Kind_), (.str x47.S_), (.int .i64 x47.V_), (.int .i64 x47.T_), (.str x47.File_), (.int .i64 x47.Line_)] ∧ OwnOK h66 o31) → (b28 < h24.n ∧ h24.n < h66.n) → Z f65 h66) (fun Z hX54 => ?_) ?_
  ·have hr53 := hb
   clear hb
   have hb := hj
   clear hj
   refine wq_def J_lex_Show_1.eq_1 ?_
   refine Tw ?_
   refine Tw ?_
   refine bnd1 hb (fun r55 h56 hb => ?_)
   refine pq_eq (G_lex_Right_ok h56) ?_
   refine Tw ?_
   refine bq_if hb rfl (fun c57 hb => ?_) (fun c57 hb => ?_)
   ·have hq := Option.some.inj hb
    subst hq
    try dsimp only at hr53
    have hb := hr53
    have hb := Option.some.inj hb
    subst hb
    have hn : _ = _ := hn
    subst hn
    have X := And.intro c57 X
    refine Tw ?_
    exact ex0 _ _ v29 a30 o31 e32 M33 rfl Cw Cn s34 s35
   ·have X := And.intro c57 X
    refine Tw ?_
    refine bq_if hb rfl (fun c59 hb => ?_) (fun c59 hb => ?_)
    ·have X := And.intro c59 X
     refine Tw ?_
     refine bq_if hb rfl (fun c60 hb => ?_) (fun c60 hb => ?_)
     ·have X := And.intro c60 X
      refine Tw ?_
      refine vq_iaddr s15 hb (fun x61 cs62 hx61 hb hcs62 => ?_)
      cases (show cs62 = [(.int .i64 x61.Kind_), (.str x61.S_), (.int .i64 x61.V_), (.int .i64 x61.T_), (.str x61.File_), (.int .i64 x61.Line_)] from hcs62)
      refine Tw ?_
      refine bq_if hb rfl (fun c63 hb => ?_) (fun c63 hb => ?_)
      ·have hq := Option.some.inj hb
       subst hq
       try dsimp only at hr53
       have hb := hr53
       have hb := Option.some.inj hb
       subst hb
       have hn : _ = _ := hn
       subst hn
       have X := And.intro c63 X
       refine Tw ?_
       exact ex0 _ _ v29 a30 o31 e32 M33 rfl Cw Cn s34 s35
      ·have hb := Option.some.inj hb
       subst hb
       have X := And.intro c63 X
       refine Tw ?_
       exact hX54 _ _ rfl Cw Cn
     ·have hb := Option.some.inj hb
      subst hb
      have X := And.intro c60 X
      refine Tw ?_
      exact hX54 _ _ rfl Cw Cn
    ·have hb := Option.some.inj hb
     subst hb
     have X := And.intro c59 X
     refine Tw ?_
     exact hX54 _ _ rfl Cw Cn
  ·intro f65 h66 ej Y67 Y69
   subst ej
   try dsimp only at hb
   have X := And.intro Y67 X
   refine Tw ?_
   refine bq_if hb rfl (fun c83 hb => ?_) (fun c83 hb => ?_)
   ·have X := And.intro c83 X
    refine Tw ?_
    refine fq_wb Cw Cw s35 s34 Cw (by rfl) hb (fun t84 o85 M86 h87 ht84 hb s88 s89 O90 F91 z92 => ?_)
    have q93 := F91.n
    try simp only [HN] at q93
    have X := And.intro F91.box (And.intro F91.loop (And.intro F91.bty (And.intro z92 (And.intro O90 X))))
    refine Tw ?_
    refine fq_in fn_lex_show (by rfl) ?_
    refine Tw ?_
    refine bq_if hb rfl (fun c97 hb => ?_) (fun c97 hb => ?_)
    ·have X := And.intro c97 X
     refine Tw ?_
     refine fq_wb Cw Cw s89 s88 Cw (by rfl) hb (fun t98 o99 M100 h101 ht98 hb s102 s103 O104 F105 z106 => ?_)
     have q107 := F105.n
     try simp only [HN] at q107
     have X := And.intro F105.box (And.intro F105.loop (And.intro F105.bty (And.intro z106 (And.intro O104 X))))
     refine Tw ?_
     refine bnd1 hb (fun q256 h257 hb => ?_)
     refine G_lex_Show_L2_ok (v125 := x47.Kind_) (v127 := x47.V_) (v128 := x47.T_) (v129 := x47.File_) (v130 := x47.Line_) (b116 := b28) (b124 := h87.n) _ _ _ h257 _ _ (.ptr b28 0) o99 1 M100 Cw Cw Cn s102 s103 ?_
     ·intro f243 h244 v248 a249 o250 e251 M252 ex Y245 Y247 s253 s254
      subst ex
      have X := And.intro Y245 (And.intro s253.len X)
      refine Tw ?_
      refine fq_wb Cw Cw s254 s253 Cw (by rfl) hb (fun t264 o265 M266 h267 ht264 hb s268 s269 O270 F271 z272 => ?_)
      have q273 := F271.n
      try simp only [HN] at q273
      have X := And.intro F271.box (And.intro F271.loop (And.intro F271.bty (And.intro z272 (And.intro O270 X))))
      refine Tw ?_
      have hb := Option.some.inj hb
      subst hb
      refine Tw ?_
      exact hn _ _ (.ptr b28 0) o265 1 M266 Cw Cw Cn s268 s269 ex0 ex1
    ·have X := And.intro c97 X
     refine Tw ?_
     refine bq_if hb rfl (fun c275 hb => ?_) (fun c275 hb => ?_)
     ·have X := And.intro c275 X
      refine Tw ?_
      refine fq_ws Cw Cw s89 s88 Cw hb (fun t276 o277 M278 h279 ht276 hb s280 s281 O282 F283 z284 => ?_)
      have q285 := F283.n
      try simp only [HN] at q285
      have X := And.intro F283.box (And.intro F283.loop (And.intro F283.bty (And.intro z284 (And.intro O282 X))))
      refine Tw ?_
      have hb := Option.some.inj hb
      subst hb
      refine Tw ?_
      exact hn _ _ (.ptr b28 0) o277 1 M278 Cw Cw Cn s280 s281 ex0 ex1
     ·have X := And.intro c275 X
      refine Tw ?_
      refine bnd1 hb (fun j298 hj hb => ?_)
      refine wq_join (fun Z => ∀ (f292 : Fr) (h293 : Heap) (v291 : Bool), v291 = j298 → (f292 0 = (.ptr b28 0) ∧ f292 3 = (.ptr h87.n 0) ∧ f292 47 = (.bool v291) ∧ h293.bty b28 = T_strings_Builder ∧ h293.box b28 = some [(.ptr b28 0), (.slice o85 1 M86)] ∧ h293.box h87.n = some [(.int .i64 x47.Kind_), (.str x47.S_), (.int .i64 x47.V_), (.int .i64 x47.T_), (.str x47.File_), (.int .i64 x47.Line_)] ∧ OwnOK h293 o85) → (b28 < h87.n ∧ h87.n < h293.n) → Z f292 h293) (fun Z hX289 => ?_) ?_
      ·have hr288 := hb
       clear hb
       have hb := hj
       clear hj
       refine wq_def J_lex_show_1.eq_1 ?_
       refine Tw ?_
       refine Tw ?_
       refine bq_if hb rfl (fun c290 hb => ?_) (fun c290 hb => ?_)
       ·have hb := Option.some.inj hb
        subst hb
        have X := And.intro c290 X
        refine Tw ?_
        exact hX289 _ _ (decide (x47.V_ < (0 : Int))) rfl Cw Cn
       ·have hb := Option.some.inj hb
        subst hb
        have X := And.intro c290 X
        refine Tw ?_
        exact hX289 _ _ false rfl Cw Cn
      ·intro f292 h293 v291 ej Y294 Y296
       subst ej
       try dsimp only at hb
       have X := And.intro Y294 X
       refine Tw ?_
       refine bq_if hb rfl (fun c306 hb => ?_) (fun c306 hb => ?_)
       ·have X := And.intro c306 X
        refine Tw ?_
        refine fq_wb Cw Cw s89 s88 Cw (by rfl) hb (fun t307 o308 M309 h310 ht307 hb s311 s312 O313 F314 z315 => ?_)
        have q316 := F314.n
        try simp only [HN] at q316
        have X := And.intro F314.box (And.intro F314.loop (And.intro F314.bty (And.intro z315 (And.intro O313 X))))
        refine Tw ?_
        refine fq_in fn_lex_escaped (by rfl) ?_
        refine Tw ?_
        refine fq_wb Cw Cw s312 s311 Cw (by rfl) hb (fun t318 o319 M320 h321 ht318 hb s322 s323 O324 F325 z326 => ?_)
        have q327 := F325.n
        try simp only [HN] at q327
        have X := And.intro F325.box (And.intro F325.loop (And.intro F325.bty (And.intro z326 (And.intro O324 X))))
        refine Tw ?_
        refine vq_new rfl (fun o329 h330 n334 O331 F332 => ?_)
        have q333 := F332.n
        try simp only [HN] at q333
        have s335 : SlR 1 (RI .i64) o329 1 ([(6 : Int), (3 : Int), (0 : Int)] : List Int) [[(.int .i64 (6 : Int))], [(.int .i64 (3 : Int))], [(.int .i64 (0 : Int))]] := (slr_cons n334 rfl (slr_cons n334 rfl (slr_cons n334 rfl (slr_0 (R := (RI .i64))))))
        obtain ⟨O336, D337⟩ := F332.keep o319 Cw Cw
        have X := And.intro F332.box (And.intro F332.loop (And.intro F332.bty (And.intro O331 (And.intro O336 (And.intro D337 X)))))
        refine Tw ?_
        refine bnd1 hb (fun q403 h404 hb => ?_)
        refine G_lex_Show_L4_ok (o341 := o329) (e342 := 1) (M343 := [[(.int .i64 (6 : Int))], [(.int .i64 (3 : Int))], [(.int .i64 (0 : Int))]]) (b352 := b28) _ _ _ h404 s335 _ _ (.ptr b28 0) o319 1 M320 Cw Cw Cn s322 s323 ?_
        ·intro f390 h391 v395 a396 o397 e398 M399 ex Y392 Y394 s400 s401
         subst ex
         have X := And.intro Y392 (And.intro Y67 (And.intro Y294 (And.intro s15.len (And.intro s20.len (And.intro s34.len (And.intro c46 (And.intro c83 (And.intro c97 (And.intro c275 (And.intro c306 (s400.len)))))))))))
         refine Tw ?_
         refine Tw ?_
         refine fq_wb Cw Cw s401 s400 Cw (by rfl) hb (fun t409 o410 M411 h412 ht409 hb s413 s414 O415 F416 z417 => ?_)
         have q418 := F416.n
         try simp only [HN] at q418
         have X := And.intro F416.box (And.intro F416.loop (And.intro F416.bty (And.intro z417 (And.intro O415 X))))
         refine Tw ?_
         have hb := Option.some.inj hb
         subst hb
         refine Tw ?_
         exact hn _ _ (.ptr b28 0) o410 1 M411 Cw Cw Cn s413 s414 ex0 ex1
       ·have X := And.intro c306 X
        refine Tw ?_
        refine bnd1 hb (fun r420 h421 hb => ?_)
        refine hq_FormatUint h421 ?_
        refine Tw ?_
        refine fq_ws Cw Cw s89 s88 Cw hb (fun t422 o423 M424 h425 ht422 hb s426 s427 O428 F429 z430 => ?_)
        have q431 := F429.n
        try simp only [HN] at q431
        have X := And.intro F429.box (And.intro F429.loop (And.intro F429.bty (And.intro z430 (And.intro O428 X))))
        refine Tw ?_
        refine vq_idxA (enc := PV.str) rfl rfl hb (fun x433 hx433 hb => ?_)
        refine Tw ?_
        refine fq_ws Cw Cw s427 s426 Cw hb (fun t434 o435 M436 h437 ht434 hb s438 s439 O440 F441 z442 => ?_)
        have q443 := F441.n
        try simp only [HN] at q443
        have X := And.intro F441.box (And.intro F441.loop (And.intro F441.bty (And.intro z442 (And.intro O440 X))))
        refine Tw ?_
        have hb := Option.some.inj hb
        subst hb
        refine Tw ?_
        exact hn _ _ (.ptr b28 0) o435 1 M436 Cw Cw Cn s438 s439 ex0 ex1
   ·have X := And.intro c83 X
    refine Tw ?_
    refine fq_in fn_lex_show (by rfl) ?_
    refine Tw ?_
    refine bq_if hb rfl (fun c446 hb => ?_) (fun c446 hb => ?_)
    ·have X := And.intro c446 X
     refine Tw ?_
     refine fq_wb Cw Cw s35 s34 Cw (by rfl) hb (fun t447 o448 M449 h450 ht447 hb s451 s452 O453 F454 z455 => ?_)
     have q456 := F454.n
     try simp only [HN] at q456
     have X := And.intro F454.box (And.intro F454.loop (And.intro F454.bty (And.intro z455 (And.intro O453 X))))
     refine Tw ?_
     refine bnd1 hb (fun q605 h606 hb => ?_)
     refine G_lex_Show_L5_ok (v474 := x47.Kind_) (v476 := x47.V_) (v477 := x47.T_) (v478 := x47.File_) (v479 := x47.Line_) (b465 := b28) (b473 := h66.n) _ _ _ h606 _ _ (.ptr b28 0) o448 1 M449 Cw Cw Cn s451 s452 ?_
     ·intro f592 h593 v597 a598 o599 e600 M601 ex Y594 Y596 s602 s603
      subst ex
      have X := And.intro Y594 (And.intro s602.len X)
      refine Tw ?_
      refine fq_wb Cw Cw s603 s602 Cw (by rfl) hb (fun t613 o614 M615 h616 ht613 hb s617 s618 O619 F620 z621 => ?_)
      have q622 := F620.n
      try simp only [HN] at q622
      have X := And.intro F620.box (And.intro F620.loop (And.intro F620.bty (And.intro z621 (And.intro O619 X))))
      refine Tw ?_
      have hb := Option.some.inj hb
      subst hb
      refine Tw ?_
      exact hn _ _ (.ptr b28 0) o614 1 M615 Cw Cw Cn s617 s618 ex0 ex1
    ·have X := And.intro c446 X
     refine Tw ?_
     refine bq_if hb rfl (fun c624 hb => ?_) (fun c624 hb => ?_)
     ·have X := And.intro c624 X
      refine Tw ?_
      refine fq_ws Cw Cw s35 s34 Cw hb (fun t625 o626 M627 h628 ht625 hb s629 s630 O631 F632 z633 => ?_)
      have q634 := F632.n
      try simp only [HN] at q634
      have X := And.intro F632.box (And.intro F632.loop (And.intro F632.bty (And.intro z633 (And.intro O631 X))))
      refine Tw ?_
      have hb := Option.some.inj hb
      subst hb
      refine Tw ?_
      exact hn _ _ (.ptr b28 0) o626 1 M627 Cw Cw Cn s629 s630 ex0 ex1
     ·have X := And.intro c624 X
      refine Tw ?_
      refine bnd1 hb (fun j647 hj hb => ?_)
      refine wq_join (fun Z => ∀ (f641 : Fr) (h642 : Heap) (v640 : Bool), v640 = j647 → (f641 0 = (.ptr b28 0) ∧ f641 3 = (.ptr h66.n 0) ∧ f641 47 = (.bool v640) ∧ h642.bty b28 = T_strings_Builder ∧ h642.box b28 = some [a30, (.slice o31 e32 M33)] ∧ h642.box h66.n = some [(.int .i64 x47.Kind_), (.str x47.S_), (.int .i64 x47.V_), (.int .i64 x47.T_), (.str x47.File_), (.int .i64 x47.Line_)] ∧ OwnOK h642 o31) → (b28 < h66.n ∧ h66.n < h642.n) → Z f641 h642) (fun Z hX638 => ?_) ?_
      ·have hr637 := hb
       clear hb
       have hb := hj
       clear hj
       refine wq_def J_lex_show_1.eq_1 ?_
       refine Tw ?_
       refine Tw ?_
       refine bq_if hb rfl (fun c639 hb => ?_) (fun c639 hb => ?_)
       ·have hb := Option.some.inj hb
        subst hb
        have X := And.intro c639 X
        refine Tw ?_
        exact hX638 _ _ (decide (x47.V_ < (0 : Int))) rfl Cw Cn
       ·have hb := Option.some.inj hb
        subst hb
        have X := And.intro c639 X
        refine Tw ?_
        exact hX638 _ _ false rfl Cw Cn
      ·intro f641 h642 v640 ej Y643 Y645
       subst ej
       try dsimp only at hb
       have X := And.intro Y643 X
       refine Tw ?_
       refine bq_if hb rfl (fun c655 hb => ?_) (fun c655 hb => ?_)
       ·have X := And.intro c655 X
        refine Tw ?_
        refine fq_wb Cw Cw s35 s34 Cw (by rfl) hb (fun t656 o657 M658 h659 ht656 hb s660 s661 O662 F663 z664 => ?_)
        have q665 := F663.n
        try simp only [HN] at q665
        have X := And.intro F663.box (And.intro F663.loop (And.intro F663.bty (And.intro z664 (And.intro O662 X))))
        refine Tw ?_
        refine fq_in fn_lex_escaped (by rfl) ?_
        refine Tw ?_
        refine fq_wb Cw Cw s661 s660 Cw (by rfl) hb (fun t667 o668 M669 h670 ht667 hb s671 s672 O673 F674 z675 => ?_)
        have q676 := F674.n
        try simp only [HN] at q676
        have X := And.intro F674.box (And.intro F674.loop (And.intro F674.bty (And.intro z675 (And.intro O673 X))))
        refine Tw ?_
        refine vq_new rfl (fun o678 h679 n683 O680 F681 => ?_)
        have q682 := F681.n
        try simp only [HN] at q682
        have s684 : SlR 1 (RI .i64) o678 1 ([(6 : Int), (3 : Int), (0 : Int)] : List Int) [[(.int .i64 (6 : Int))], [(.int .i64 (3 : Int))], [(.int .i64 (0 : Int))]] := (slr_cons n683 rfl (slr_cons n683 rfl (slr_cons n683 rfl (slr_0 (R := (RI .i64))))))
        obtain ⟨O685, D686⟩ := F681.keep o668 Cw Cw
        have X := And.intro F681.box (And.intro F681.loop (And.intro F681.bty (And.intro O680 (And.intro O685 (And.intro D686 X)))))
        refine Tw ?_
        refine bnd1 hb (fun q752 h753 hb => ?_)
        refine G_lex_Show_L7_ok (o690 := o678) (e691 := 1) (M692 := [[(.int .i64 (6 : Int))], [(.int .i64 (3 : Int))], [(.int .i64 (0 : Int))]]) (b701 := b28) _ _ _ h753 s684 _ _ (.ptr b28 0) o668 1 M669 Cw Cw Cn s671 s672 ?_
        ·intro f739 h740 v744 a745 o746 e747 M748 ex Y741 Y743 s749 s750
         subst ex
         have X := And.intro Y741 (And.intro Y67 (And.intro Y643 (And.intro s15.len (And.intro s20.len (And.intro s34.len (And.intro c46 (And.intro c83 (And.intro c446 (And.intro c624 (And.intro c655 (s749.len)))))))))))
         refine Tw ?_
         refine Tw ?_
         refine fq_wb Cw Cw s750 s749 Cw (by rfl) hb (fun t758 o759 M760 h761 ht758 hb s762 s763 O764 F765 z766 => ?_)
         have q767 := F765.n
         try simp only [HN] at q767
         have X := And.intro F765.box (And.intro F765.loop (And.intro F765.bty (And.intro z766 (And.intro O764 X))))
         refine Tw ?_
         have hb := Option.some.inj hb
         subst hb
         refine Tw ?_
         exact hn _ _ (.ptr b28 0) o759 1 M760 Cw Cw Cn s762 s763 ex0 ex1
       ·have X := And.intro c655 X
        refine Tw ?_
        refine bnd1 hb (fun r769 h770 hb => ?_)
        refine hq_FormatUint h770 ?_
        refine Tw ?_
        refine fq_ws Cw Cw s35 s34 Cw hb (fun t771 o772 M773 h774 ht771 hb s775 s776 O777 F778 z779 => ?_)
        have q780 := F778.n
        try simp only [HN] at q780
        have X := And.intro F778.box (And.intro F778.loop (And.intro F778.bty (And.intro z779 (And.intro O777 X))))
        refine Tw ?_
        refine vq_idxA (enc := PV.str) rfl rfl hb (fun x782 hx782 hb => ?_)
        refine Tw ?_
        refine fq_ws Cw Cw s776 s775 Cw hb (fun t783 o784 M785 h786 ht783 hb s787 s788 O789 F790 z791 => ?_)
        have q792 := F790.n
        try simp only [HN] at q792
        have X := And.intro F790.box (And.intro F790.loop (And.intro F790.bty (And.intro z791 (And.intro O789 X))))
        refine Tw ?_
        have hb := Option.some.inj hb
        subst hb
        refine Tw ?_
        exact hn _ _ (.ptr b28 0) o784 1 M785 Cw Cw Cn s787 s788 ex0 ex1
 ·have hb := Option.some.inj hb
  subst hb
  have hn : _ = _ := hn
  subst hn
  have X := And.intro c46 X
  refine Tw ?_
  exact ex1 _ _ v29 a30 o31 e32 M33 rfl Cw Cn s34 s35
def G_lex_Show (l_2 : List T_api_Word) : Option (Bytes × Int) :=
 loopO (G_lex_Show_L1 l_2 l_2 ((List.length l_2 : Nat) : Int)) ((0 : Int), ([] : Bytes)) >>= fun q820 => match q820 with
  | .a v799 =>
   some (([] : Bytes), (2 : Int))
  | .b v812 =>
   some (v812, (0 : Int))
theorem G_lex_Show_ok {l_2 : List T_api_Word} {o3 : Own} {e4 : Nat} {M5 : List (List PV)} {r7 : Bytes} {r8 : Int} (hx : G_lex_Show l_2 = some (r7, r8)) (s6 : SlR 6 T_api_Word.R o3 e4 l_2 M5) : PureE E 33 [(.slice o3 e4 M5)] (fun v => v = (.tuple [(.str r7), (.int .i64 r8)])) := by
 refine pureE_ok fn_lex_Show rfl ?_
 have hb := hx
 dsimp only [G_lex_Show] at hb
 have X := s6.len
 refine Tw ?_
 refine bnd1 hb (fun q820 h821 hb => ?_)
 refine G_lex_Show_L1_ok (o12 := o3) (e13 := e4) (M14 := M5) (o17 := o3) (e18 := e4) (M19 := M5) (b28 := 0) _ _ _ h821 s6 s6 _ _ .nilptr .nil 0 [] Cw Cw Cn slr_nil bda_nil ?_ ?_
 ·intro f794 h795 v799 a800 o801 e802 M803 ex Y796 Y798 s804 s805
  subst ex
  try dsimp only at hb
  have hb := Option.some.inj hb
  obtain ⟨e0, e1⟩ := Prod.mk.inj hb
  subst e0
  subst e1
  have X := And.intro Y796 (And.intro s804.len X)
  refine Tw ?_
  exact endI rfl
 ·intro f807 h808 v812 a813 o814 e815 M816 ex Y809 Y811 s817 s818
  subst ex
  try dsimp only at hb
  have X := And.intro Y809 (And.intro s817.len X)
  refine Tw ?_
  refine fq_bs Cw s818 s817 Cw ?_
  have hb := Option.some.inj hb
  obtain ⟨e0, e1⟩ := Prod.mk.inj hb
  subst e0
  subst e1
  refine Tw ?_
  exact endI rfl
def G_burinlaw07_lexed (s_2 : Bytes) : Option (List T_api_Tok) :=
 G_token_Lex ([(T_api_Line.mk (1 : Int) s_2)] : List T_api_Line) >>= fun (r16, r21, r22) =>
 some r16
theorem G_burinlaw07_lexed_ok {s_2 : Bytes} {r3 : List T_api_Tok} (hx : G_burinlaw07_lexed s_2 = some r3) : PureE E 18 [(.str s_2)] (fun v => ∃ o4 e5 M6, v = (.slice o4 e5 M6) ∧ SlR 6 T_api_Tok.R o4 e5 r3 M6) := by
 refine pureE_ok fn_burinlaw07_lexed rfl ?_
 have hb := hx
 dsimp only [G_burinlaw07_lexed] at hb
 have X := True.intro
 refine Tw ?_
 refine vq_new rfl (fun o8 h9 n13 O10 F11 => ?_)
 have q12 := F11.n
 try simp only [HN] at q12
 have s14 : SlR 2 T_api_Line.R o8 2 ([(T_api_Line.mk (1 : Int) s_2)] : List T_api_Line) [[(.int .i64 (1 : Int)), (.str s_2)]] := (slr_cons n13 rfl (slr_0 (R := T_api_Line.R)))
 have X := And.intro F11.box (And.intro F11.loop (And.intro F11.bty (And.intro O10 X)))
 refine Tw ?_
 refine bnd3 hb (fun r16 r21 r22 h23 hb => ?_)
 try dsimp only at hb
 refine pq_in1 (G_token_Lex_ok h23 s14.st) (fun o17 e18 M19 s20 => ?_)
 have hb := Option.some.inj hb
 subst hb
 have X := And.intro s20.len X
 refine Tw ?_
 exact endI ⟨(stO o17), e18, M19, rfl, s20.st⟩
def G_cond_isSuffix (s_2 : Bytes) : Option (Bool × Bool) :=
 oToLower s_2 >>= fun r5 =>
 (
  if (r5 == ([] : Bytes)) then
   some true
  else
   if (r5 == ([117] : Bytes)) then
    some true
   else
    if (r5 == ([108] : Bytes)) then
     some true
    else
     if (r5 == ([108, 108] : Bytes)) then
      some true
     else
      if (r5 == ([117, 108] : Bytes)) then
       some true
      else
       if (r5 == ([117, 108, 108] : Bytes)) then
        some true
       else
        if (r5 == ([108, 117] : Bytes)) then
         some true
        else
         some (r5 == ([108, 108, 117] : Bytes))
 ) >>= fun v17 =>
 if v17 then
  oContains s_2 ([108, 76] : Bytes) >>= fun r28 =>
  if (!r28) then
   oContains s_2 ([76, 108] : Bytes) >>= fun r31 =>
   oContains r5 ([117] : Bytes) >>= fun r33 =>
   some ((!r31), r33)
  else
   oContains r5 ([117] : Bytes) >>= fun r35 =>
   some (false, r35)
 else
  some (false, false)
theorem G_cond_isSuffix_ok {s_2 : Bytes} {r3 : Bool} {r4 : Bool} (hx : G_cond_isSuffix s_2 = some (r3, r4)) : PureE E 43 [(.str s_2)] (fun v => v = (.tuple [(.bool r3), (.bool r4)])) := by
 refine pureE_ok fn_cond_isSuffix rfl ?_
 have hb := hx
 dsimp only [G_cond_isSuffix] at hb
 have X := True.intro
 refine Tw ?_
 refine bnd1 hb (fun r5 h6 hb => ?_)
 refine hq_ToLower h6 ?_
 refine Tw ?_
 refine bnd1 hb (fun j23 hj hb => ?_)
 refine wq_joinF (fun Z => ∀ (f18 : Fr) (v17 : Bool), v17 = j23 → (f18 0 = (.str s_2) ∧ f18 4 = (.str r5) ∧ f18 8 = (.bool v17)) → Z f18) (fun Z hX9 => ?_) ?_
 ·have hr8 := hb
  clear hb
  have hb := hj
  clear hj
  refine wq_def J_cond_isSuffix_1.eq_1 ?_
  refine Tw ?_
  refine Tw ?_
  refine bq_if hb rfl (fun c10 hb => ?_) (fun c10 hb => ?_)
  ·have hb := Option.some.inj hb
   subst hb
   have X := And.intro c10 X
   refine Tw ?_
   exact hX9 _ true rfl Cw
  ·have X := And.intro c10 X
   refine Tw ?_
   refine bq_if hb rfl (fun c11 hb => ?_) (fun c11 hb => ?_)
   ·have hb := Option.some.inj hb
    subst hb
    have X := And.intro c11 X
    refine Tw ?_
    exact hX9 _ true rfl Cw
   ·have X := And.intro c11 X
    refine Tw ?_
    refine bq_if hb rfl (fun c12 hb => ?_) (fun c12 hb => ?_)
    ·have hb := Option.some.inj hb
     subst hb
     have X := And.intro c12 X
     refine Tw ?_
     exact hX9 _ true rfl Cw
    ·have X := And.intro c12 X
     refine Tw ?_
     refine bq_if hb rfl (fun c13 hb => ?_) (fun c13 hb => ?_)
     ·have hb := Option.some.inj hb
      subst hb
      have X := And.intro c13 X
      refine Tw ?_
      exact hX9 _ true rfl Cw
     ·have X := And.intro c13 X
      refine Tw ?_
      refine bq_if hb rfl (fun c14 hb => ?_) (fun c14 hb => ?_)
      ·have hb := Option.some.inj hb
       subst hb
       have X := And.intro c14 X
       refine Tw ?_
       exact hX9 _ true rfl Cw
      ·have X := And.intro c14 X
       refine Tw ?_
       refine bq_if hb rfl (fun c15 hb => ?_) (fun c15 hb => ?_)
       ·have hb := Option.some.inj hb
        subst hb
        have X := And.intro c15 X
        refine Tw ?_
        exact hX9 _ true rfl Cw
       ·have X := And.intro c15 X
        refine Tw ?_
        refine bq_if hb rfl (fun c16 hb => ?_) (fun c16 hb => ?_)
        ·have hb := Option.some.inj hb
         subst hb
         have X := And.intro c16 X
         refine Tw ?_
         exact hX9 _ true rfl Cw
        ·have hb := Option.some.inj hb
         subst hb
         have X := And.intro c16 X
         refine Tw ?_
         exact hX9 _ (r5 == ([108, 108, 117] : Bytes)) rfl Cw
 ·intro f18 v17 ej Y20
  subst ej
  try dsimp only at hb
  have X := And.intro Y20 X
  refine Tw ?_
  refine bq_if hb rfl (fun c27 hb => ?_) (fun c27 hb => ?_)
  ·have X := And.intro c27 X
   refine Tw ?_
   refine bnd1 hb (fun r28 h29 hb => ?_)
   refine hq_Contains h29 ?_
   refine Tw ?_
   refine bq_if hb rfl (fun c30 hb => ?_) (fun c30 hb => ?_)
   ·have X := And.intro c30 X
    refine Tw ?_
    refine bnd1 hb (fun r31 h32 hb => ?_)
    refine hq_Contains h32 ?_
    refine Tw ?_
    refine bnd1 hb (fun r33 h34 hb => ?_)
    refine hq_Contains h34 ?_
    have hb := Option.some.inj hb
    obtain ⟨e0, e1⟩ := Prod.mk.inj hb
    subst e0
    subst e1
    refine Tw ?_
    exact endI rfl
   ·have X := And.intro c30 X
    refine Tw ?_
    refine bnd1 hb (fun r35 h36 hb => ?_)
    refine hq_Contains h36 ?_
    have hb := Option.some.inj hb
    obtain ⟨e0, e1⟩ := Prod.mk.inj hb
    subst e0
    subst e1
    refine Tw ?_
    exact endI rfl
  ·have hb := Option.some.inj hb
   obtain ⟨e0, e1⟩ := Prod.mk.inj hb
   subst e0
   subst e1
   have X := And.intro c27 X
   refine Tw ?_
   exact endI rfl
end Go.Proofs.YtmngkcpobmhnoaaGreatDoor.Sim
