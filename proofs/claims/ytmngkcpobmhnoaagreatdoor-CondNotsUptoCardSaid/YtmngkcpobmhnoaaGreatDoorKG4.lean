/- Printed functions, continued. -/
import Derived.Test.YtmngkcpobmhnoaaGreatDoorKG3
set_option linter.all false
set_option maxHeartbeats 4000000
set_option maxRecDepth 20000
namespace Go.Proofs.YtmngkcpobmhnoaaGreatDoor.Sim
def G_internal_strconv_ParseUint_L1 (base_146 : Int) (base0_147 : Bool) (cutoff_149 : Int) (maxVal_150 : Int) (v153 : List UInt8) (v158 : Int) : Bool × Int × Int → Option ((Bool × Int × Int) ⊕ (Ex2 (Int × Ifc) (Bool × Int))) := fun (underscores_151, n_152, v159) =>
 if (decide (v159 < v158)) then
  idx v153 v159 >>= fun x179 =>
  (
   (
    if ((x179.toNat : Int) == (95 : Int)) then
     some base0_147
    else
     some false
   ) >>= fun v188 =>
   if v188 then
    some (Ex2.a (Sum.inl (true, n_152, (IntKind.wrap .i64 (v159 + (1 : Int))))))
   else
    (
     if (decide ((48 : Int) ≤ (x179.toNat : Int))) then
      some (decide ((x179.toNat : Int) ≤ (57 : Int)))
     else
      some false
    ) >>= fun v213 =>
    if v213 then
     some (Ex2.b (IntKind.wrap .u8 ((x179.toNat : Int) - (48 : Int))))
    else
     (
      G_internal_strconv_lower (x179.toNat : Int) >>= fun r236 =>
      if (decide ((97 : Int) ≤ r236)) then
       G_internal_strconv_lower (x179.toNat : Int) >>= fun r239 =>
       some (decide (r239 ≤ (122 : Int)))
      else
       some false
     ) >>= fun v241 =>
     if v241 then
      G_internal_strconv_lower (x179.toNat : Int) >>= fun r261 =>
      some (Ex2.b (IntKind.wrap .u8 ((IntKind.wrap .u8 (r261 - (97 : Int))) + (10 : Int))))
     else
      some (Ex2.a (Sum.inr (Ex2.a ((0 : Int), (Ifc.int 145 .i64 (2 : Int))))))
  ) >>= fun j270 => match j270 with
   | .a q => some q
   | .b d_264 =>
    if (decide ((IntKind.wrap .u8 base_146) ≤ d_264)) then
     some (Sum.inr (Ex2.a ((0 : Int), (Ifc.int 145 .i64 (2 : Int)))))
    else
     if (decide (cutoff_149 ≤ n_152)) then
      some (Sum.inr (Ex2.a (maxVal_150, (Ifc.int 145 .i64 (1 : Int)))))
     else
      if (decide ((IntKind.wrap .u64 ((IntKind.wrap .u64 (n_152 * (IntKind.wrap .u64 base_146))) + (IntKind.wrap .u64 d_264))) < (IntKind.wrap .u64 (n_152 * (IntKind.wrap .u64 base_146))))) then
       some (Sum.inr (Ex2.a (maxVal_150, (Ifc.int 145 .i64 (1 : Int)))))
      else
       if (decide (maxVal_150 < (IntKind.wrap .u64 ((IntKind.wrap .u64 (n_152 * (IntKind.wrap .u64 base_146))) + (IntKind.wrap .u64 d_264))))) then
        some (Sum.inr (Ex2.a (maxVal_150, (Ifc.int 145 .i64 (1 : Int)))))
       else
        some (Sum.inl (underscores_151, (IntKind.wrap .u64 ((IntKind.wrap .u64 (n_152 * (IntKind.wrap .u64 base_146))) + (IntKind.wrap .u64 d_264))), (IntKind.wrap .i64 (v159 + (1 : Int)))))
 else
  some (Sum.inr (Ex2.b (underscores_151, n_152)))
theorem G_internal_strconv_ParseUint_L1_ok {κ : Kt} {t : Blk κ} {base_146 : Int} {base0_147 : Bool} {s0_148 : Bytes} {cutoff_149 : Int} {maxVal_150 : Int} {v153 : List UInt8} {v158 : Int} {o154 : Own} {e155 : Nat} {M156 : List (List PV)} {h161 : Heap} (underscores_151 : Bool) (n_152 : Int) (v159 : Int) (x : Ex2 (Int × Ifc) (Bool × Int)) (hx : loopO (G_internal_strconv_ParseUint_L1 base_146 base0_147 cutoff_149 maxVal_150 v153 v158) (underscores_151, n_152, v159) = some x) (hh : True) (ho : True) (s157 : SlR 1 R8 o154 e155 v153 M156) : ∀ (f160 : Fr), (f160 1 = (.int .i64 base_146) ∧ f160 8 = (.bool base0_147) ∧ f160 9 = (.str s0_148) ∧ f160 10 = (.int .u64 cutoff_149) ∧ f160 11 = (.int .u64 maxVal_150) ∧ f160 12 = (.bool underscores_151) ∧ f160 13 = (.int .u64 n_152) ∧ f160 99 = (.slice o154 e155 M156) ∧ f160 100 = (.int .i64 v158) ∧ f160 101 = (.int .i64 v159)) → (∀ (f288 : Fr) (v286 : Int) (v287 : Ifc), Ex2.a (v286, v287) = x → (f288 6 = (.int .u64 v286) ∧ f288 7 = (Ifc.pv v287)) → κ.R f288 h161) → (∀ (f295 : Fr) (underscores_293 : Bool) (n_294 : Int), Ex2.b (underscores_293, n_294) = x → (f295 9 = (.str s0_148) ∧ f295 12 = (.bool underscores_293) ∧ f295 13 = (.int .u64 n_294)) → κ.B 3 f295 h161) → Lq E (.loop L_internal_strconv_ParseUint_1) κ t f160 h161 := by
 revert underscores_151 n_152 v159 x
 refine loop3' ?_
 intro underscores_151 n_152 v159 r hb x hn f160  Y162  ex0 ex1
 dsimp only [G_internal_strconv_ParseUint_L1] at hb
 refine loop_step L_internal_strconv_ParseUint_1.eq_1 ?_
 have X := And.intro Y162 (And.intro hh (s157.len))
 refine Tw ?_
 refine Tw ?_
 refine bq_if hb rfl (fun c178 hb => ?_) (fun c178 hb => ?_)
 ·have X := And.intro c178 X
  refine Tw ?_
  refine vq_iaddr s157 hb (fun x179 cs180 hx179 hb hcs180 => ?_)
  cases (show cs180 = [(.int .u8 (x179.toNat : Int))] from hcs180)
  refine Tw ?_
  refine bnd1 hb (fun j270 hj hb => ?_)
  refine wq_joinF (fun Z => ∀ (f265 : Fr) (d_264 : Int), Ex2.b d_264 = j270 → (f265 1 = (.int .i64 base_146) ∧ f265 8 = (.bool base0_147) ∧ f265 9 = (.str s0_148) ∧ f265 10 = (.int .u64 cutoff_149) ∧ f265 11 = (.int .u64 maxVal_150) ∧ f265 12 = (.bool underscores_151) ∧ f265 13 = (.int .u64 n_152) ∧ f265 16 = (.int .u8 d_264) ∧ f265 99 = (.slice o154 e155 M156) ∧ f265 100 = (.int .i64 v158) ∧ f265 101 = (.int .i64 v159)) → Z f265) (fun Z hX183 => ?_) ?_
  ·have hr182 := hb
   clear hb
   have hb := hj
   clear hj
   refine wq_def J_internal_strconv_ParseUint_7.eq_1 ?_
   refine Tw ?_
   refine Tw ?_
   refine bnd1 hb (fun j194 hj hb => ?_)
   refine wq_joinF (fun Z => ∀ (f189 : Fr) (v188 : Bool), v188 = j194 → (f189 1 = (.int .i64 base_146) ∧ f189 8 = (.bool base0_147) ∧ f189 9 = (.str s0_148) ∧ f189 10 = (.int .u64 cutoff_149) ∧ f189 11 = (.int .u64 maxVal_150) ∧ f189 12 = (.bool underscores_151) ∧ f189 13 = (.int .u64 n_152) ∧ f189 15 = (.int .u8 (x179.toNat : Int)) ∧ f189 99 = (.slice o154 e155 M156) ∧ f189 100 = (.int .i64 v158) ∧ f189 101 = (.int .i64 v159) ∧ f189 106 = (.bool v188)) → Z f189) (fun Z hX186 => ?_) ?_
   ·have hr185 := hb
    clear hb
    have hb := hj
    clear hj
    refine wq_def J_internal_strconv_ParseUint_8.eq_1 ?_
    refine Tw ?_
    refine Tw ?_
    refine bq_if hb rfl (fun c187 hb => ?_) (fun c187 hb => ?_)
    ·have hb := Option.some.inj hb
     subst hb
     have X := And.intro c187 X
     refine Tw ?_
     exact hX186 _ base0_147 rfl Cw
    ·have hb := Option.some.inj hb
     subst hb
     have X := And.intro c187 X
     refine Tw ?_
     exact hX186 _ false rfl Cw
   ·intro f189 v188 ej Y191
    subst ej
    try dsimp only at hb
    have X := And.intro Y191 X
    refine Tw ?_
    refine bq_if hb rfl (fun c207 hb => ?_) (fun c207 hb => ?_)
    ·have hq := Option.some.inj hb
     subst hq
     try dsimp only at hr182
     have hb := hr182
     have hb := Option.some.inj hb
     subst hb
     have X := And.intro c207 X
     refine Tw ?_
     exact hn _  Cw ex0 ex1
    ·have X := And.intro c207 X
     refine Tw ?_
     refine bnd1 hb (fun j219 hj hb => ?_)
     refine wq_joinF (fun Z => ∀ (f214 : Fr) (v213 : Bool), v213 = j219 → (f214 1 = (.int .i64 base_146) ∧ f214 8 = (.bool base0_147) ∧ f214 9 = (.str s0_148) ∧ f214 10 = (.int .u64 cutoff_149) ∧ f214 11 = (.int .u64 maxVal_150) ∧ f214 12 = (.bool underscores_151) ∧ f214 13 = (.int .u64 n_152) ∧ f214 15 = (.int .u8 (x179.toNat : Int)) ∧ f214 99 = (.slice o154 e155 M156) ∧ f214 100 = (.int .i64 v158) ∧ f214 101 = (.int .i64 v159) ∧ f214 112 = (.bool v213)) → Z f214) (fun Z hX211 => ?_) ?_
     ·have hr210 := hb
      clear hb
      have hb := hj
      clear hj
      refine wq_def J_internal_strconv_ParseUint_9.eq_1 ?_
      refine Tw ?_
      refine Tw ?_
      refine bq_if hb rfl (fun c212 hb => ?_) (fun c212 hb => ?_)
      ·have hb := Option.some.inj hb
       subst hb
       have X := And.intro c212 X
       refine Tw ?_
       exact hX211 _ (decide ((x179.toNat : Int) ≤ (57 : Int))) rfl Cw
      ·have hb := Option.some.inj hb
       subst hb
       have X := And.intro c212 X
       refine Tw ?_
       exact hX211 _ false rfl Cw
     ·intro f214 v213 ej Y216
      subst ej
      try dsimp only at hb
      have X := And.intro Y216 X
      refine Tw ?_
      refine bq_if hb rfl (fun c232 hb => ?_) (fun c232 hb => ?_)
      ·have hb := Option.some.inj hb
       subst hb
       have X := And.intro c232 X
       refine Tw ?_
       exact hX183 _ (IntKind.wrap .u8 ((x179.toNat : Int) - (48 : Int))) rfl Cw
      ·have X := And.intro c232 X
       refine Tw ?_
       refine bnd1 hb (fun j247 hj hb => ?_)
       refine wq_joinF (fun Z => ∀ (f242 : Fr) (v241 : Bool), v241 = j247 → (f242 1 = (.int .i64 base_146) ∧ f242 8 = (.bool base0_147) ∧ f242 9 = (.str s0_148) ∧ f242 10 = (.int .u64 cutoff_149) ∧ f242 11 = (.int .u64 maxVal_150) ∧ f242 12 = (.bool underscores_151) ∧ f242 13 = (.int .u64 n_152) ∧ f242 15 = (.int .u8 (x179.toNat : Int)) ∧ f242 99 = (.slice o154 e155 M156) ∧ f242 100 = (.int .i64 v158) ∧ f242 101 = (.int .i64 v159) ∧ f242 121 = (.bool v241)) → Z f242) (fun Z hX235 => ?_) ?_
       ·have hr234 := hb
        clear hb
        have hb := hj
        clear hj
        refine wq_def J_internal_strconv_ParseUint_10.eq_1 ?_
        refine Tw ?_
        refine Tw ?_
        refine bnd1 hb (fun r236 h237 hb => ?_)
        refine pq_eq (G_internal_strconv_lower_ok h237) ?_
        refine Tw ?_
        refine bq_if hb rfl (fun c238 hb => ?_) (fun c238 hb => ?_)
        ·have X := And.intro c238 X
         refine Tw ?_
         refine bnd1 hb (fun r239 h240 hb => ?_)
         refine pq_eq (G_internal_strconv_lower_ok h240) ?_
         have hb := Option.some.inj hb
         subst hb
         refine Tw ?_
         exact hX235 _ (decide (r239 ≤ (122 : Int))) rfl Cw
        ·have hb := Option.some.inj hb
         subst hb
         have X := And.intro c238 X
         refine Tw ?_
         exact hX235 _ false rfl Cw
       ·intro f242 v241 ej Y244
        subst ej
        try dsimp only at hb
        have X := And.intro Y244 X
        refine Tw ?_
        refine bq_if hb rfl (fun c260 hb => ?_) (fun c260 hb => ?_)
        ·have X := And.intro c260 X
         refine Tw ?_
         refine bnd1 hb (fun r261 h262 hb => ?_)
         refine pq_eq (G_internal_strconv_lower_ok h262) ?_
         have hb := Option.some.inj hb
         subst hb
         refine Tw ?_
         exact hX183 _ (IntKind.wrap .u8 ((IntKind.wrap .u8 (r261 - (97 : Int))) + (10 : Int))) rfl Cw
        ·have hq := Option.some.inj hb
         subst hq
         try dsimp only at hr182
         have hb := hr182
         have hb := Option.some.inj hb
         subst hb
         have hn : _ = _ := hn
         subst hn
         have X := And.intro c260 X
         refine Tw ?_
         exact ex0 _ (0 : Int) (Ifc.int 145 .i64 (2 : Int)) rfl Cw
  ·intro f265 d_264 ej Y267
   subst ej
   try dsimp only at hb
   have X := And.intro Y267 X
   refine Tw ?_
   refine bq_if hb rfl (fun c282 hb => ?_) (fun c282 hb => ?_)
   ·have hb := Option.some.inj hb
    subst hb
    have hn : _ = _ := hn
    subst hn
    have X := And.intro c282 X
    refine Tw ?_
    exact ex0 _ (0 : Int) (Ifc.int 145 .i64 (2 : Int)) rfl Cw
   ·have X := And.intro c282 X
    refine Tw ?_
    refine bq_if hb rfl (fun c283 hb => ?_) (fun c283 hb => ?_)
    ·have hb := Option.some.inj hb
     subst hb
     have hn : _ = _ := hn
     subst hn
     have X := And.intro c283 X
     refine Tw ?_
     exact ex0 _ maxVal_150 (Ifc.int 145 .i64 (1 : Int)) rfl Cw
    ·have X := And.intro c283 X
     refine Tw ?_
     refine bq_if hb rfl (fun c284 hb => ?_) (fun c284 hb => ?_)
     ·have hb := Option.some.inj hb
      subst hb
      have hn : _ = _ := hn
      subst hn
      have X := And.intro c284 X
      refine Tw ?_
      exact ex0 _ maxVal_150 (Ifc.int 145 .i64 (1 : Int)) rfl Cw
     ·have X := And.intro c284 X
      refine Tw ?_
      refine bq_if hb rfl (fun c285 hb => ?_) (fun c285 hb => ?_)
      ·have hb := Option.some.inj hb
       subst hb
       have hn : _ = _ := hn
       subst hn
       have X := And.intro c285 X
       refine Tw ?_
       exact ex0 _ maxVal_150 (Ifc.int 145 .i64 (1 : Int)) rfl Cw
      ·have hb := Option.some.inj hb
       subst hb
       have X := And.intro c285 X
       refine Tw ?_
       exact hn _  Cw ex0 ex1
 ·have hb := Option.some.inj hb
  subst hb
  have hn : _ = _ := hn
  subst hn
  have X := And.intro c178 X
  refine Tw ?_
  exact ex1 _ underscores_151 n_152 rfl Cw
def G_internal_strconv_ParseUint (s_2 : Bytes) (base_3 : Int) (bitSize_4 : Int) : Option (Int × Ifc) :=
 if (s_2 == ([] : Bytes)) then
  some ((0 : Int), (Ifc.int 145 .i64 (2 : Int)))
 else
  (
   (
    if (decide ((2 : Int) ≤ base_3)) then
     some (decide (base_3 ≤ (36 : Int)))
    else
     some false
   ) >>= fun v15 =>
   if v15 then
    some (Ex2.b (s_2, base_3, (base_3 == (0 : Int))))
   else
    if (base_3 == (0 : Int)) then
     idx s_2 (0 : Int) >>= fun x30 =>
     if ((x30.toNat : Int) == (48 : Int)) then
      (
       if (decide ((3 : Int) ≤ ((List.length s_2 : Nat) : Int))) then
        idx s_2 (1 : Int) >>= fun x36 =>
        G_internal_strconv_lower (x36.toNat : Int) >>= fun r37 =>
        some (r37 == (98 : Int))
       else
        some false
      ) >>= fun v39 =>
      if v39 then
       subF s_2 (2 : Int) >>= fun t52 =>
       some (Ex2.b (t52, (2 : Int), true))
      else
       (
        if (decide ((3 : Int) ≤ ((List.length s_2 : Nat) : Int))) then
         idx s_2 (1 : Int) >>= fun x57 =>
         G_internal_strconv_lower (x57.toNat : Int) >>= fun r58 =>
         some (r58 == (111 : Int))
        else
         some false
       ) >>= fun v60 =>
       if v60 then
        subF s_2 (2 : Int) >>= fun t73 =>
        some (Ex2.b (t73, (8 : Int), true))
       else
        if (decide ((3 : Int) ≤ ((List.length s_2 : Nat) : Int))) then
         idx s_2 (1 : Int) >>= fun x75 =>
         G_internal_strconv_lower (x75.toNat : Int) >>= fun r76 =>
         if (r76 == (120 : Int)) then
          subF s_2 (2 : Int) >>= fun t79 =>
          some (Ex2.b (t79, (16 : Int), true))
         else
          subF s_2 (1 : Int) >>= fun t80 =>
          some (Ex2.b (t80, (8 : Int), true))
        else
         subF s_2 (1 : Int) >>= fun t81 =>
         some (Ex2.b (t81, (8 : Int), true))
     else
      some (Ex2.b (s_2, (10 : Int), true))
    else
     some (Ex2.a ((0 : Int), (Ifc.int 145 .i64 (3 : Int))))
  ) >>= fun j91 => match j91 with
   | .a q => some q
   | .b (s_83, base_84, base0_85) =>
    (
     if (bitSize_4 == (0 : Int)) then
      some (Ex2.b (64 : Int))
     else
      if (decide (bitSize_4 < (0 : Int))) then
       some (Ex2.a ((0 : Int), (Ifc.int 145 .i64 (4 : Int))))
      else
       if (decide ((64 : Int) < bitSize_4)) then
        some (Ex2.a ((0 : Int), (Ifc.int 145 .i64 (4 : Int))))
       else
        some (Ex2.b bitSize_4)
    ) >>= fun j111 => match j111 with
     | .a q => some q
     | .b bitSize_105 =>
      (
       if (base_84 == (10 : Int)) then
        some (1844674407370955162 : Int)
       else
        if (base_84 == (16 : Int)) then
         some (1152921504606846976 : Int)
        else
         quo .u64 (18446744073709551615 : Int) (IntKind.wrap .u64 base_84) >>= fun i122 =>
         some (IntKind.wrap .u64 (i122 + (1 : Int)))
      ) >>= fun cutoff_123 =>
      shl .u64 (1 : Int) (IntKind.wrap .u64 bitSize_105) >>= fun i136 =>
      loopO (G_internal_strconv_ParseUint_L1 base_84 base0_85 cutoff_123 (IntKind.wrap .u64 (i136 - (1 : Int))) s_83 ((List.length s_83 : Nat) : Int)) (false, (0 : Int), (0 : Int)) >>= fun q300 => match q300 with
       | .a (v286, v287) =>
        some (v286, v287)
       | .b (underscores_293, n_294) =>
        if underscores_293 then
         G_internal_strconv_underscoreOK s_2 >>= fun r308 =>
         if (!r308) then
          some ((0 : Int), (Ifc.int 145 .i64 (2 : Int)))
         else
          some (n_294, Ifc.nil)
        else
         some (n_294, Ifc.nil)
theorem G_internal_strconv_ParseUint_ok {s_2 : Bytes} {base_3 : Int} {bitSize_4 : Int} {r5 : Int} {r6 : Ifc} (hx : G_internal_strconv_ParseUint s_2 base_3 bitSize_4 = some (r5, r6)) : PureE E 71 [(.str s_2), (.int .i64 base_3), (.int .i64 bitSize_4)] (fun v => v = (.tuple [(.int .u64 r5), (Ifc.pv r6)])) := by
 refine pureE_ok fn_internal_strconv_ParseUint rfl ?_
 have hb := hx
 dsimp only [G_internal_strconv_ParseUint] at hb
 have X := True.intro
 refine Tw ?_
 refine bq_if hb rfl (fun c7 hb => ?_) (fun c7 hb => ?_)
 ·have hb := Option.some.inj hb
  obtain ⟨e0, e1⟩ := Prod.mk.inj hb
  subst e0
  subst e1
  have X := And.intro c7 X
  refine Tw ?_
  exact endI rfl
 ·have X := And.intro c7 X
  refine Tw ?_
  refine bnd1 hb (fun j91 hj hb => ?_)
  refine wq_joinF (fun Z => ∀ (f86 : Fr) (s_83 : Bytes) (base_84 : Int) (base0_85 : Bool), Ex2.b (s_83, base_84, base0_85) = j91 → (f86 0 = (.str s_83) ∧ f86 1 = (.int .i64 base_84) ∧ f86 2 = (.int .i64 bitSize_4) ∧ f86 8 = (.bool base0_85) ∧ f86 9 = (.str s_2)) → Z f86) (fun Z hX10 => ?_) ?_
  ·have hr9 := hb
   clear hb
   have hb := hj
   clear hj
   refine wq_def J_internal_strconv_ParseUint_1.eq_1 ?_
   refine Tw ?_
   refine Tw ?_
   refine bnd1 hb (fun j21 hj hb => ?_)
   refine wq_joinF (fun Z => ∀ (f16 : Fr) (v15 : Bool), v15 = j21 → (f16 0 = (.str s_2) ∧ f16 1 = (.int .i64 base_3) ∧ f16 2 = (.int .i64 bitSize_4) ∧ f16 8 = (.bool (base_3 == (0 : Int))) ∧ f16 9 = (.str s_2) ∧ f16 25 = (.bool v15)) → Z f16) (fun Z hX13 => ?_) ?_
   ·have hr12 := hb
    clear hb
    have hb := hj
    clear hj
    refine wq_def J_internal_strconv_ParseUint_2.eq_1 ?_
    refine Tw ?_
    refine Tw ?_
    refine bq_if hb rfl (fun c14 hb => ?_) (fun c14 hb => ?_)
    ·have hb := Option.some.inj hb
     subst hb
     have X := And.intro c14 X
     refine Tw ?_
     exact hX13 _ (decide (base_3 ≤ (36 : Int))) rfl Cw
    ·have hb := Option.some.inj hb
     subst hb
     have X := And.intro c14 X
     refine Tw ?_
     exact hX13 _ false rfl Cw
   ·intro f16 v15 ej Y18
    subst ej
    try dsimp only at hb
    have X := And.intro Y18 X
    refine Tw ?_
    refine bq_if hb rfl (fun c28 hb => ?_) (fun c28 hb => ?_)
    ·have hb := Option.some.inj hb
     subst hb
     have X := And.intro c28 X
     refine Tw ?_
     exact hX10 _ s_2 base_3 (base_3 == (0 : Int)) rfl Cw
    ·have X := And.intro c28 X
     refine Tw ?_
     refine bq_if hb rfl (fun c29 hb => ?_) (fun c29 hb => ?_)
     ·have X := And.intro c29 X
      refine Tw ?_
      refine vq_idxS hb (fun x30 hx30 hb => ?_)
      refine Tw ?_
      refine bq_if hb rfl (fun c31 hb => ?_) (fun c31 hb => ?_)
      ·have X := And.intro c31 X
       refine Tw ?_
       refine bnd1 hb (fun j45 hj hb => ?_)
       refine wq_joinF (fun Z => ∀ (f40 : Fr) (v39 : Bool), v39 = j45 → (f40 0 = (.str s_2) ∧ f40 2 = (.int .i64 bitSize_4) ∧ f40 8 = (.bool true) ∧ f40 9 = (.str s_2) ∧ f40 40 = (.bool v39)) → Z f40) (fun Z hX34 => ?_) ?_
       ·have hr33 := hb
        clear hb
        have hb := hj
        clear hj
        refine wq_def J_internal_strconv_ParseUint_3.eq_1 ?_
        refine Tw ?_
        refine Tw ?_
        refine bq_if hb rfl (fun c35 hb => ?_) (fun c35 hb => ?_)
        ·have X := And.intro c35 X
         refine Tw ?_
         refine vq_idxS hb (fun x36 hx36 hb => ?_)
         refine Tw ?_
         refine bnd1 hb (fun r37 h38 hb => ?_)
         refine pq_eq (G_internal_strconv_lower_ok h38) ?_
         have hb := Option.some.inj hb
         subst hb
         refine Tw ?_
         exact hX34 _ (r37 == (98 : Int)) rfl Cw
        ·have hb := Option.some.inj hb
         subst hb
         have X := And.intro c35 X
         refine Tw ?_
         exact hX34 _ false rfl Cw
       ·intro f40 v39 ej Y42
        subst ej
        try dsimp only at hb
        have X := And.intro Y42 X
        refine Tw ?_
        refine bq_if hb rfl (fun c51 hb => ?_) (fun c51 hb => ?_)
        ·have X := And.intro c51 X
         refine Tw ?_
         refine vq_subFs hb (fun t52 ht52 hb => ?_)
         have hb := Option.some.inj hb
         subst hb
         refine Tw ?_
         exact hX10 _ t52 (2 : Int) true rfl Cw
        ·have X := And.intro c51 X
         refine Tw ?_
         refine bnd1 hb (fun j66 hj hb => ?_)
         refine wq_joinF (fun Z => ∀ (f61 : Fr) (v60 : Bool), v60 = j66 → (f61 0 = (.str s_2) ∧ f61 2 = (.int .i64 bitSize_4) ∧ f61 8 = (.bool true) ∧ f61 9 = (.str s_2) ∧ f61 52 = (.bool v60)) → Z f61) (fun Z hX55 => ?_) ?_
         ·have hr54 := hb
          clear hb
          have hb := hj
          clear hj
          refine wq_def J_internal_strconv_ParseUint_4.eq_1 ?_
          refine Tw ?_
          refine Tw ?_
          refine bq_if hb rfl (fun c56 hb => ?_) (fun c56 hb => ?_)
          ·have X := And.intro c56 X
           refine Tw ?_
           refine vq_idxS hb (fun x57 hx57 hb => ?_)
           refine Tw ?_
           refine bnd1 hb (fun r58 h59 hb => ?_)
           refine pq_eq (G_internal_strconv_lower_ok h59) ?_
           have hb := Option.some.inj hb
           subst hb
           refine Tw ?_
           exact hX55 _ (r58 == (111 : Int)) rfl Cw
          ·have hb := Option.some.inj hb
           subst hb
           have X := And.intro c56 X
           refine Tw ?_
           exact hX55 _ false rfl Cw
         ·intro f61 v60 ej Y63
          subst ej
          try dsimp only at hb
          have X := And.intro Y63 X
          refine Tw ?_
          refine bq_if hb rfl (fun c72 hb => ?_) (fun c72 hb => ?_)
          ·have X := And.intro c72 X
           refine Tw ?_
           refine vq_subFs hb (fun t73 ht73 hb => ?_)
           have hb := Option.some.inj hb
           subst hb
           refine Tw ?_
           exact hX10 _ t73 (8 : Int) true rfl Cw
          ·have X := And.intro c72 X
           refine Tw ?_
           refine bq_if hb rfl (fun c74 hb => ?_) (fun c74 hb => ?_)
           ·have X := And.intro c74 X
            refine Tw ?_
            refine vq_idxS hb (fun x75 hx75 hb => ?_)
            refine Tw ?_
            refine bnd1 hb (fun r76 h77 hb => ?_)
            refine pq_eq (G_internal_strconv_lower_ok h77) ?_
            refine Tw ?_
            refine bq_if hb rfl (fun c78 hb => ?_) (fun c78 hb => ?_)
            ·have X := And.intro c78 X
             refine Tw ?_
             refine vq_subFs hb (fun t79 ht79 hb => ?_)
             have hb := Option.some.inj hb
             subst hb
             refine Tw ?_
             exact hX10 _ t79 (16 : Int) true rfl Cw
            ·have X := And.intro c78 X
             refine Tw ?_
             refine vq_subFs hb (fun t80 ht80 hb => ?_)
             have hb := Option.some.inj hb
             subst hb
             refine Tw ?_
             exact hX10 _ t80 (8 : Int) true rfl Cw
           ·have X := And.intro c74 X
            refine Tw ?_
            refine vq_subFs hb (fun t81 ht81 hb => ?_)
            have hb := Option.some.inj hb
            subst hb
            refine Tw ?_
            exact hX10 _ t81 (8 : Int) true rfl Cw
      ·have hb := Option.some.inj hb
       subst hb
       have X := And.intro c31 X
       refine Tw ?_
       exact hX10 _ s_2 (10 : Int) true rfl Cw
     ·have hq := Option.some.inj hb
      subst hq
      try dsimp only at hr9
      have hb := hr9
      have hb := Option.some.inj hb
      obtain ⟨e0, e1⟩ := Prod.mk.inj hb
      subst e0
      subst e1
      have X := And.intro c29 X
      refine Tw ?_
      exact endI rfl
  ·intro f86 s_83 base_84 base0_85 ej Y88
   subst ej
   try dsimp only at hb
   have X := And.intro Y88 X
   refine Tw ?_
   refine bnd1 hb (fun j111 hj hb => ?_)
   refine wq_joinF (fun Z => ∀ (f106 : Fr) (bitSize_105 : Int), Ex2.b bitSize_105 = j111 → (f106 0 = (.str s_83) ∧ f106 1 = (.int .i64 base_84) ∧ f106 2 = (.int .i64 bitSize_105) ∧ f106 8 = (.bool base0_85) ∧ f106 9 = (.str s_2)) → Z f106) (fun Z hX99 => ?_) ?_
   ·have hr98 := hb
    clear hb
    have hb := hj
    clear hj
    refine wq_def J_internal_strconv_ParseUint_5.eq_1 ?_
    refine Tw ?_
    refine Tw ?_
    refine bq_if hb rfl (fun c100 hb => ?_) (fun c100 hb => ?_)
    ·have hb := Option.some.inj hb
     subst hb
     have X := And.intro c100 X
     refine Tw ?_
     exact hX99 _ (64 : Int) rfl Cw
    ·have X := And.intro c100 X
     refine Tw ?_
     refine bq_if hb rfl (fun c101 hb => ?_) (fun c101 hb => ?_)
     ·have hq := Option.some.inj hb
      subst hq
      try dsimp only at hr98
      have hb := hr98
      have hb := Option.some.inj hb
      obtain ⟨e0, e1⟩ := Prod.mk.inj hb
      subst e0
      subst e1
      have X := And.intro c101 X
      refine Tw ?_
      exact endI rfl
     ·have X := And.intro c101 X
      refine Tw ?_
      refine bq_if hb rfl (fun c103 hb => ?_) (fun c103 hb => ?_)
      ·have hq := Option.some.inj hb
       subst hq
       try dsimp only at hr98
       have hb := hr98
       have hb := Option.some.inj hb
       obtain ⟨e0, e1⟩ := Prod.mk.inj hb
       subst e0
       subst e1
       have X := And.intro c103 X
       refine Tw ?_
       exact endI rfl
      ·have hb := Option.some.inj hb
       subst hb
       have X := And.intro c103 X
       refine Tw ?_
       exact hX99 _ bitSize_4 rfl Cw
   ·intro f106 bitSize_105 ej Y108
    subst ej
    try dsimp only at hb
    have X := And.intro Y108 X
    refine Tw ?_
    refine bnd1 hb (fun j129 hj hb => ?_)
    refine wq_joinF (fun Z => ∀ (f124 : Fr) (cutoff_123 : Int), cutoff_123 = j129 → (f124 0 = (.str s_83) ∧ f124 1 = (.int .i64 base_84) ∧ f124 2 = (.int .i64 bitSize_105) ∧ f124 8 = (.bool base0_85) ∧ f124 9 = (.str s_2) ∧ f124 10 = (.int .u64 cutoff_123)) → Z f124) (fun Z hX119 => ?_) ?_
    ·have hr118 := hb
     clear hb
     have hb := hj
     clear hj
     refine wq_def J_internal_strconv_ParseUint_6.eq_1 ?_
     refine Tw ?_
     refine Tw ?_
     refine bq_if hb rfl (fun c120 hb => ?_) (fun c120 hb => ?_)
     ·have hb := Option.some.inj hb
      subst hb
      have X := And.intro c120 X
      refine Tw ?_
      exact hX119 _ (1844674407370955162 : Int) rfl Cw
     ·have X := And.intro c120 X
      refine Tw ?_
      refine bq_if hb rfl (fun c121 hb => ?_) (fun c121 hb => ?_)
      ·have hb := Option.some.inj hb
       subst hb
       have X := And.intro c121 X
       refine Tw ?_
       exact hX119 _ (1152921504606846976 : Int) rfl Cw
      ·have X := And.intro c121 X
       refine Tw ?_
       refine vq_quo hb (fun i122 hi122 hb => ?_)
       have hb := Option.some.inj hb
       subst hb
       refine Tw ?_
       exact hX119 _ (IntKind.wrap .u64 (i122 + (1 : Int))) rfl Cw
    ·intro f124 cutoff_123 ej Y126
     subst ej
     try dsimp only at hb
     have X := And.intro Y126 X
     refine Tw ?_
     refine vq_shl hb (fun i136 hi136 hb => ?_)
     refine Tw ?_
     refine vq_s2b (fun o138 M139 h140 s141 O142 F143 => ?_)
     have q144 := F143.n
     try simp only [HN] at q144
     have X := And.intro F143.box (And.intro F143.loop (And.intro F143.bty (And.intro O142 (And.intro s141.len X))))
     refine Tw ?_
     refine bnd1 hb (fun q300 h301 hb => ?_)
     refine G_internal_strconv_ParseUint_L1_ok (s0_148 := s_2) (o154 := o138) (e155 := 1) (M156 := M139) _ _ _ _ h301 trivial trivial s141 _ Cw ?_ ?_
     ·intro f288 v286 v287 ex Y290
      subst ex
      try dsimp only at hb
      have hb := Option.some.inj hb
      obtain ⟨e0, e1⟩ := Prod.mk.inj hb
      subst e0
      subst e1
      have X := And.intro Y290 X
      refine Tw ?_
      exact endI rfl
     ·intro f295 underscores_293 n_294 ex Y297
      subst ex
      try dsimp only at hb
      have X := And.intro Y297 X
      refine Tw ?_
      refine bq_if hb rfl (fun c307 hb => ?_) (fun c307 hb => ?_)
      ·have X := And.intro c307 X
       refine Tw ?_
       refine bnd1 hb (fun r308 h309 hb => ?_)
       refine pq_eq (G_internal_strconv_underscoreOK_ok h309) ?_
       refine Tw ?_
       refine bq_if hb rfl (fun c310 hb => ?_) (fun c310 hb => ?_)
       ·have hb := Option.some.inj hb
        obtain ⟨e0, e1⟩ := Prod.mk.inj hb
        subst e0
        subst e1
        have X := And.intro c310 X
        refine Tw ?_
        exact endI rfl
       ·have hb := Option.some.inj hb
        obtain ⟨e0, e1⟩ := Prod.mk.inj hb
        subst e0
        subst e1
        have X := And.intro c310 X
        refine Tw ?_
        exact endI rfl
      ·have hb := Option.some.inj hb
       obtain ⟨e0, e1⟩ := Prod.mk.inj hb
       subst e0
       subst e1
       have X := And.intro c307 X
       refine Tw ?_
       exact endI rfl
def G_strconv_toError (fn_2 : Bytes) (s_3 : Bytes) (base_4 : Int) (bitSize_5 : Int) (err_6 : Ifc) : Option (Ifc) :=
 eqI [145] err_6 (Ifc.int 145 .i64 (2 : Int)) >>= fun q8 =>
 if q8 then
  oClone s_3 >>= fun r10 =>
  some Ifc.opq
 else
  eqI [145] err_6 (Ifc.int 145 .i64 (1 : Int)) >>= fun q14 =>
  if q14 then
   oClone s_3 >>= fun r16 =>
   some Ifc.opq
  else
   eqI [145] err_6 (Ifc.int 145 .i64 (3 : Int)) >>= fun q20 =>
   if q20 then
    none
   else
    eqI [145] err_6 (Ifc.int 145 .i64 (4 : Int)) >>= fun q22 =>
    if q22 then
     none
    else
     some err_6
theorem G_strconv_toError_ok {fn_2 : Bytes} {s_3 : Bytes} {base_4 : Int} {bitSize_5 : Int} {err_6 : Ifc} {r7 : Ifc} (hx : G_strconv_toError fn_2 s_3 base_4 bitSize_5 err_6 = some r7) : PureE E 72 [(.str fn_2), (.str s_3), (.int .i64 base_4), (.int .i64 bitSize_5), (Ifc.pv err_6)] (fun v => v = (Ifc.pv r7)) := by
 refine pureE_ok fn_strconv_toError rfl ?_
 have hb := hx
 dsimp only [G_strconv_toError] at hb
 have X := True.intro
 refine Tw ?_
 refine vq_eqi hb (fun q8 hq8 hb => ?_)
 refine Tw ?_
 refine bq_if hb rfl (fun c9 hb => ?_) (fun c9 hb => ?_)
 ·have X := And.intro c9 X
  refine Tw ?_
  refine fq_in fn_strconv_syntaxError (by rfl) ?_
  refine Tw ?_
  refine bnd1 hb (fun r10 h11 hb => ?_)
  refine hq_Clone h11 ?_
  refine Tw ?_
  have hb := Option.some.inj hb
  subst hb
  refine Tw ?_
  exact endI rfl
 ·have X := And.intro c9 X
  refine Tw ?_
  refine vq_eqi hb (fun q14 hq14 hb => ?_)
  refine Tw ?_
  refine bq_if hb rfl (fun c15 hb => ?_) (fun c15 hb => ?_)
  ·have X := And.intro c15 X
   refine Tw ?_
   refine fq_in fn_strconv_rangeError (by rfl) ?_
   refine Tw ?_
   refine bnd1 hb (fun r16 h17 hb => ?_)
   refine hq_Clone h17 ?_
   refine Tw ?_
   have hb := Option.some.inj hb
   subst hb
   refine Tw ?_
   exact endI rfl
  ·have X := And.intro c15 X
   refine Tw ?_
   refine vq_eqi hb (fun q20 hq20 hb => ?_)
   refine Tw ?_
   refine bq_if hb rfl (fun c21 hb => ?_) (fun c21 hb => ?_)
   ·cases hb
   ·have X := And.intro c21 X
    refine Tw ?_
    refine vq_eqi hb (fun q22 hq22 hb => ?_)
    refine Tw ?_
    refine bq_if hb rfl (fun c23 hb => ?_) (fun c23 hb => ?_)
    ·cases hb
    ·have hb := Option.some.inj hb
     subst hb
     have X := And.intro c23 X
     refine Tw ?_
     exact endI rfl
def G_strconv_ParseUint (s_2 : Bytes) (base_3 : Int) (bitSize_4 : Int) : Option (Int × Ifc) :=
 G_internal_strconv_ParseUint s_2 base_3 bitSize_4 >>= fun (r7, r8) =>
 if (!(Ifc.isNil r8)) then
  G_strconv_toError ([80, 97, 114, 115, 101, 85, 105, 110, 116] : Bytes) s_2 base_3 bitSize_4 r8 >>= fun r11 =>
  some (r7, r11)
 else
  some (r7, Ifc.nil)
theorem G_strconv_ParseUint_ok {s_2 : Bytes} {base_3 : Int} {bitSize_4 : Int} {r5 : Int} {r6 : Ifc} (hx : G_strconv_ParseUint s_2 base_3 bitSize_4 = some (r5, r6)) : PureE E 44 [(.str s_2), (.int .i64 base_3), (.int .i64 bitSize_4)] (fun v => v = (.tuple [(.int .u64 r5), (Ifc.pv r6)])) := by
 refine pureE_ok fn_strconv_ParseUint rfl ?_
 have hb := hx
 dsimp only [G_strconv_ParseUint] at hb
 have X := True.intro
 refine Tw ?_
 refine bnd2 hb (fun r7 r8 h9 hb => ?_)
 try dsimp only at hb
 refine pq_eq (G_internal_strconv_ParseUint_ok h9) ?_
 refine Tw ?_
 refine bq_if hb rfl (fun c10 hb => ?_) (fun c10 hb => ?_)
 ·have X := And.intro c10 X
  refine Tw ?_
  refine bnd1 hb (fun r11 h12 hb => ?_)
  refine pq_eq (G_strconv_toError_ok h12) ?_
  have hb := Option.some.inj hb
  obtain ⟨e0, e1⟩ := Prod.mk.inj hb
  subst e0
  subst e1
  refine Tw ?_
  exact endI rfl
 ·have hb := Option.some.inj hb
  obtain ⟨e0, e1⟩ := Prod.mk.inj hb
  subst e0
  subst e1
  have X := And.intro c10 X
  refine Tw ?_
  exact endI rfl
def G_cond_Number (s_2 : Bytes) : Option (Int × Bool × Int) :=
 (
  (
   if (Lib.hasPrefix s_2 ([48, 120] : Bytes)) then
    some true
   else
    some (Lib.hasPrefix s_2 ([48, 88] : Bytes))
  ) >>= fun v13 =>
  if v13 then
   subF s_2 (2 : Int) >>= fun t26 =>
   some ((16 : Int), ([48, 49, 50, 51, 52, 53, 54, 55, 56, 57, 97, 98, 99, 100, 101, 102, 65, 66, 67, 68, 69, 70] : Bytes), t26)
  else
   if (Lib.hasPrefix s_2 ([48] : Bytes)) then
    some ((8 : Int), ([48, 49, 50, 51, 52, 53, 54, 55] : Bytes), s_2)
   else
    some ((10 : Int), ([48, 49, 50, 51, 52, 53, 54, 55, 56, 57] : Bytes), s_2)
 ) >>= fun (base_28, digits_29, t_30) =>
 oCutLeft t_30 digits_29 >>= fun r40 =>
 subT t_30 (IntKind.wrap .i64 (((List.length t_30 : Nat) : Int) - ((List.length r40 : Nat) : Int))) >>= fun t42 =>
 G_cond_isSuffix r40 >>= fun (r43, r44) =>
 G_strconv_ParseUint t42 base_28 (64 : Int) >>= fun (r46, r47) =>
 (
  if (!r43) then
   some (Ex2.a ((0 : Int), false, (50 : Int)))
  else
   if (!(Ifc.isNil r47)) then
    some (Ex2.a ((0 : Int), false, (50 : Int)))
   else
    some (Ex2.b ())
 ) >>= fun j61 => match j61 with
  | .a q => some q
  | .b () =>
   if r44 then
    some (r46, true, (0 : Int))
   else
    if (!(base_28 == (10 : Int))) then
     oLen64 r46 >>= fun r67 =>
     some (r46, (r67 == (64 : Int)), (0 : Int))
    else
     some (r46, false, (0 : Int))
theorem G_cond_Number_ok {s_2 : Bytes} {r3 : Int} {r4 : Bool} {r5 : Int} (hx : G_cond_Number s_2 = some (r3, r4, r5)) : PureE E 29 [(.str s_2)] (fun v => v = (.tuple [(.int .u64 r3), (.bool r4), (.int .i64 r5)])) := by
 refine pureE_ok fn_cond_Number rfl ?_
 have hb := hx
 dsimp only [G_cond_Number] at hb
 have X := True.intro
 refine Tw ?_
 refine bnd1 hb (fun j36 hj hb => ?_)
 refine wq_joinF (fun Z => ∀ (f31 : Fr) (base_28 : Int) (digits_29 : Bytes) (t_30 : Bytes), (base_28, digits_29, t_30) = j36 → (f31 5 = (.int .i64 base_28) ∧ f31 6 = (.str digits_29) ∧ f31 7 = (.str t_30)) → Z f31) (fun Z hX8 => ?_) ?_
 ·have hr7 := hb
  clear hb
  have hb := hj
  clear hj
  refine wq_def J_cond_Number_1.eq_1 ?_
  refine Tw ?_
  refine Tw ?_
  refine bnd1 hb (fun j19 hj hb => ?_)
  refine wq_joinF (fun Z => ∀ (f14 : Fr) (v13 : Bool), v13 = j19 → (f14 0 = (.str s_2) ∧ f14 5 = (.int .i64 (10 : Int)) ∧ f14 6 = (.str ([48, 49, 50, 51, 52, 53, 54, 55, 56, 57] : Bytes)) ∧ f14 7 = (.str s_2) ∧ f14 14 = (.bool v13)) → Z f14) (fun Z hX11 => ?_) ?_
  ·have hr10 := hb
   clear hb
   have hb := hj
   clear hj
   refine wq_def J_cond_Number_2.eq_1 ?_
   refine Tw ?_
   refine Tw ?_
   refine bq_if hb rfl (fun c12 hb => ?_) (fun c12 hb => ?_)
   ·have hb := Option.some.inj hb
    subst hb
    have X := And.intro c12 X
    refine Tw ?_
    exact hX11 _ true rfl Cw
   ·have hb := Option.some.inj hb
    subst hb
    have X := And.intro c12 X
    refine Tw ?_
    exact hX11 _ (Lib.hasPrefix s_2 ([48, 88] : Bytes)) rfl Cw
  ·intro f14 v13 ej Y16
   subst ej
   try dsimp only at hb
   have X := And.intro Y16 X
   refine Tw ?_
   refine bq_if hb rfl (fun c25 hb => ?_) (fun c25 hb => ?_)
   ·have X := And.intro c25 X
    refine Tw ?_
    refine vq_subFs hb (fun t26 ht26 hb => ?_)
    have hb := Option.some.inj hb
    subst hb
    refine Tw ?_
    exact hX8 _ (16 : Int) ([48, 49, 50, 51, 52, 53, 54, 55, 56, 57, 97, 98, 99, 100, 101, 102, 65, 66, 67, 68, 69, 70] : Bytes) t26 rfl Cw
   ·have X := And.intro c25 X
    refine Tw ?_
    refine bq_if hb rfl (fun c27 hb => ?_) (fun c27 hb => ?_)
    ·have hb := Option.some.inj hb
     subst hb
     have X := And.intro c27 X
     refine Tw ?_
     exact hX8 _ (8 : Int) ([48, 49, 50, 51, 52, 53, 54, 55] : Bytes) s_2 rfl Cw
    ·have hb := Option.some.inj hb
     subst hb
     have X := And.intro c27 X
     refine Tw ?_
     exact hX8 _ (10 : Int) ([48, 49, 50, 51, 52, 53, 54, 55, 56, 57] : Bytes) s_2 rfl Cw
 ·intro f31 base_28 digits_29 t_30 ej Y33
  subst ej
  try dsimp only at hb
  have X := And.intro Y33 X
  refine Tw ?_
  refine bnd1 hb (fun r40 h41 hb => ?_)
  refine hq_cutLeft h41 ?_
  refine Tw ?_
  refine vq_subTs hb (fun t42 ht42 hb => ?_)
  refine Tw ?_
  refine bnd2 hb (fun r43 r44 h45 hb => ?_)
  try dsimp only at hb
  refine pq_eq (G_cond_isSuffix_ok h45) ?_
  refine Tw ?_
  refine bnd2 hb (fun r46 r47 h48 hb => ?_)
  try dsimp only at hb
  refine pq_eq (G_strconv_ParseUint_ok h48) ?_
  refine Tw ?_
  refine bnd1 hb (fun j61 hj hb => ?_)
  refine wq_joinF (fun Z => ∀ (f56 : Fr), Ex2.b () = j61 → (f56 5 = (.int .i64 base_28) ∧ f56 10 = (.bool r44) ∧ f56 11 = (.int .u64 r46)) → Z f56) (fun Z hX51 => ?_) ?_
  ·have hr50 := hb
   clear hb
   have hb := hj
   clear hj
   refine wq_def J_cond_Number_3.eq_1 ?_
   refine Tw ?_
   refine Tw ?_
   refine bq_if hb rfl (fun c52 hb => ?_) (fun c52 hb => ?_)
   ·have hq := Option.some.inj hb
    subst hq
    try dsimp only at hr50
    have hb := hr50
    have hb := Option.some.inj hb
    obtain ⟨e0, hb⟩ := Prod.mk.inj hb
    obtain ⟨e1, e2⟩ := Prod.mk.inj hb
    subst e0
    subst e1
    subst e2
    have X := And.intro c52 X
    refine Tw ?_
    exact endI rfl
   ·have X := And.intro c52 X
    refine Tw ?_
    refine bq_if hb rfl (fun c54 hb => ?_) (fun c54 hb => ?_)
    ·have hq := Option.some.inj hb
     subst hq
     try dsimp only at hr50
     have hb := hr50
     have hb := Option.some.inj hb
     obtain ⟨e0, hb⟩ := Prod.mk.inj hb
     obtain ⟨e1, e2⟩ := Prod.mk.inj hb
     subst e0
     subst e1
     subst e2
     have X := And.intro c54 X
     refine Tw ?_
     exact endI rfl
    ·have hb := Option.some.inj hb
     subst hb
     have X := And.intro c54 X
     refine Tw ?_
     exact hX51 _ rfl Cw
  ·intro f56 ej Y58
   subst ej
   try dsimp only at hb
   have X := And.intro Y58 X
   refine Tw ?_
   refine bq_if hb rfl (fun c65 hb => ?_) (fun c65 hb => ?_)
   ·have hb := Option.some.inj hb
    obtain ⟨e0, hb⟩ := Prod.mk.inj hb
    obtain ⟨e1, e2⟩ := Prod.mk.inj hb
    subst e0
    subst e1
    subst e2
    have X := And.intro c65 X
    refine Tw ?_
    exact endI rfl
   ·have X := And.intro c65 X
    refine Tw ?_
    refine bq_if hb rfl (fun c66 hb => ?_) (fun c66 hb => ?_)
    ·have X := And.intro c66 X
     refine Tw ?_
     refine bnd1 hb (fun r67 h68 hb => ?_)
     refine hq_Len64 h68 ?_
     have hb := Option.some.inj hb
     obtain ⟨e0, hb⟩ := Prod.mk.inj hb
     obtain ⟨e1, e2⟩ := Prod.mk.inj hb
     subst e0
     subst e1
     subst e2
     refine Tw ?_
     exact endI rfl
    ·have hb := Option.some.inj hb
     obtain ⟨e0, hb⟩ := Prod.mk.inj hb
     obtain ⟨e1, e2⟩ := Prod.mk.inj hb
     subst e0
     subst e1
     subst e2
     have X := And.intro c66 X
     refine Tw ?_
     exact endI rfl
def G_cond_digitsOf_L1 (s_6 : Bytes) (digits_7 : Bytes) (most_8 : Int) : Int → Option ((Int) ⊕ (Int)) := fun n_9 =>
 if (decide (n_9 < ((List.length s_6 : Nat) : Int))) then
  if (decide (n_9 < most_8)) then
   idx s_6 n_9 >>= fun x23 =>
   if (decide ((0 : Int) ≤ (Lib.indexByte digits_7 (Int.toNat (x23.toNat : Int)).toUInt8))) then
    some (Sum.inl (IntKind.wrap .i64 (n_9 + (1 : Int))))
   else
    some (Sum.inr n_9)
  else
   some (Sum.inr n_9)
 else
  some (Sum.inr n_9)
theorem G_cond_digitsOf_L1_ok {κ : Kt} {t : Blk κ} {s_6 : Bytes} {digits_7 : Bytes} {most_8 : Int} {h11 : Heap} (n_9 : Int) (x : Int) (hx : loopO (G_cond_digitsOf_L1 s_6 digits_7 most_8) n_9 = some x) (hh : True) (ho : True) : ∀ (f10 : Fr), (f10 0 = (.str s_6) ∧ f10 1 = (.str digits_7) ∧ f10 2 = (.int .i64 most_8) ∧ f10 7 = (.int .i64 n_9)) → (∀ (f26 : Fr) (n_25 : Int), n_25 = x → (f26 7 = (.int .i64 n_25)) → κ.B 0 f26 h11) → Lq E (.loop L_cond_digitsOf_1) κ t f10 h11 := by
 revert n_9 x
 refine loop1' ?_
 intro n_9 r hb x hn f10  Y12  ex0
 dsimp only [G_cond_digitsOf_L1] at hb
 refine loop_step L_cond_digitsOf_1.eq_1 ?_
 have X := Y12
 refine Tw ?_
 refine Tw ?_
 refine bq_if hb rfl (fun c21 hb => ?_) (fun c21 hb => ?_)
 ·have X := And.intro c21 X
  refine Tw ?_
  refine bq_if hb rfl (fun c22 hb => ?_) (fun c22 hb => ?_)
  ·have X := And.intro c22 X
   refine Tw ?_
   refine vq_idxS hb (fun x23 hx23 hb => ?_)
   refine Tw ?_
   refine bq_if hb rfl (fun c24 hb => ?_) (fun c24 hb => ?_)
   ·have hb := Option.some.inj hb
    subst hb
    have X := And.intro c24 X
    refine Tw ?_
    exact hn _  Cw ex0
   ·have hb := Option.some.inj hb
    subst hb
    have hn : _ = _ := hn
    subst hn
    have X := And.intro c24 X
    refine Tw ?_
    exact ex0 _ n_9 rfl Cw
  ·have hb := Option.some.inj hb
   subst hb
   have hn : _ = _ := hn
   subst hn
   have X := And.intro c22 X
   refine Tw ?_
   exact ex0 _ n_9 rfl Cw
 ·have hb := Option.some.inj hb
  subst hb
  have hn : _ = _ := hn
  subst hn
  have X := And.intro c21 X
  refine Tw ?_
  exact ex0 _ n_9 rfl Cw
def G_cond_digitsOf (s_2 : Bytes) (digits_3 : Bytes) (most_4 : Int) : Option (Int) :=
 loopO (G_cond_digitsOf_L1 s_2 digits_3 most_4) (0 : Int) >>= fun n_25 =>
 some n_25
theorem G_cond_digitsOf_ok {s_2 : Bytes} {digits_3 : Bytes} {most_4 : Int} {r5 : Int} (hx : G_cond_digitsOf s_2 digits_3 most_4 = some r5) : PureE E 154 [(.str s_2), (.str digits_3), (.int .i64 most_4)] (fun v => v = (.int .i64 r5)) := by
 refine pureE_ok fn_cond_digitsOf rfl ?_
 have hb := hx
 dsimp only [G_cond_digitsOf] at hb
 have X := True.intro
 refine Tw ?_
 refine bnd1 hb (fun q31 h32 hb => ?_)
 refine G_cond_digitsOf_L1_ok _ _ h32 trivial trivial _ Cw ?_
 ·intro f26 n_25 ex Y28
  subst ex
  have hb := Option.some.inj hb
  subst hb
  have X := And.intro Y28 X
  refine Tw ?_
  exact endI rfl
def G_cond_escape (s_2 : Bytes) : Option (Int × Bytes × Bool) :=
 if (s_2 == ([] : Bytes)) then
  some ((0 : Int), ([] : Bytes), false)
 else
  idx s_2 (0 : Int) >>= fun x7 =>
  if (decide ((0 : Int) ≤ (Lib.indexByte ([110, 116, 118, 98, 114, 102, 97, 92, 39, 34, 63] : Bytes) (Int.toNat (x7.toNat : Int)).toUInt8))) then
   idx ([10, 9, 11, 8, 13, 12, 7, 92, 39, 34, 63] : Bytes) (Lib.indexByte ([110, 116, 118, 98, 114, 102, 97, 92, 39, 34, 63] : Bytes) (Int.toNat (x7.toNat : Int)).toUInt8) >>= fun x9 =>
   subF s_2 (1 : Int) >>= fun t10 =>
   some ((x9.toNat : Int), t10, true)
  else
   G_cond_digitsOf s_2 ([48, 49, 50, 51, 52, 53, 54, 55] : Bytes) (3 : Int) >>= fun r11 =>
   (
    idx s_2 (0 : Int) >>= fun x16 =>
    if ((x16.toNat : Int) == (120 : Int)) then
     subF s_2 (1 : Int) >>= fun t18 =>
     G_cond_digitsOf t18 ([48, 49, 50, 51, 52, 53, 54, 55, 56, 57, 97, 98, 99, 100, 101, 102, 65, 66, 67, 68, 69, 70] : Bytes) ((List.length t18 : Nat) : Int) >>= fun r19 =>
     some (t18, (16 : Int), r19)
    else
     some (s_2, (8 : Int), r11)
   ) >>= fun (s_21, base_22, n_23) =>
   subT s_21 n_23 >>= fun t33 =>
   (
    if (base_22 == (16 : Int)) then
     oTrimLeft t33 ([48] : Bytes) >>= fun r38 =>
     if (decide ((0 : Int) < n_23)) then
      if (r38 == ([] : Bytes)) then
       some ([48] : Bytes)
      else
       some r38
     else
      some r38
    else
     some t33
   ) >>= fun t_42 =>
   G_strconv_ParseUint t_42 base_22 (8 : Int) >>= fun (r53, r54) =>
   subF s_21 n_23 >>= fun t56 =>
   some ((IntKind.wrap .u8 r53), t56, (Ifc.isNil r54))
theorem G_cond_escape_ok {s_2 : Bytes} {r3 : Int} {r4 : Bytes} {r5 : Bool} (hx : G_cond_escape s_2 = some (r3, r4, r5)) : PureE E 120 [(.str s_2)] (fun v => v = (.tuple [(.int .u8 r3), (.str r4), (.bool r5)])) := by
 refine pureE_ok fn_cond_escape rfl ?_
 have hb := hx
 dsimp only [G_cond_escape] at hb
 have X := True.intro
 refine Tw ?_
 refine bq_if hb rfl (fun c6 hb => ?_) (fun c6 hb => ?_)
 ·have hb := Option.some.inj hb
  obtain ⟨e0, hb⟩ := Prod.mk.inj hb
  obtain ⟨e1, e2⟩ := Prod.mk.inj hb
  subst e0
  subst e1
  subst e2
  have X := And.intro c6 X
  refine Tw ?_
  exact endI rfl
 ·have X := And.intro c6 X
  refine Tw ?_
  refine vq_idxS hb (fun x7 hx7 hb => ?_)
  refine Tw ?_
  refine bq_if hb rfl (fun c8 hb => ?_) (fun c8 hb => ?_)
  ·have X := And.intro c8 X
   refine Tw ?_
   refine vq_idxS hb (fun x9 hx9 hb => ?_)
   refine Tw ?_
   refine vq_subFs hb (fun t10 ht10 hb => ?_)
   have hb := Option.some.inj hb
   obtain ⟨e0, hb⟩ := Prod.mk.inj hb
   obtain ⟨e1, e2⟩ := Prod.mk.inj hb
   subst e0
   subst e1
   subst e2
   refine Tw ?_
   exact endI rfl
  ·have X := And.intro c8 X
   refine Tw ?_
   refine bnd1 hb (fun r11 h12 hb => ?_)
   refine pq_eq (G_cond_digitsOf_ok h12) ?_
   refine Tw ?_
   refine bnd1 hb (fun j29 hj hb => ?_)
   refine wq_joinF (fun Z => ∀ (f24 : Fr) (s_21 : Bytes) (base_22 : Int) (n_23 : Int), (s_21, base_22, n_23) = j29 → (f24 0 = (.str s_21) ∧ f24 6 = (.int .i64 base_22) ∧ f24 7 = (.int .i64 n_23)) → Z f24) (fun Z hX15 => ?_) ?_
   ·have hr14 := hb
    clear hb
    have hb := hj
    clear hj
    refine wq_def J_cond_escape_1.eq_1 ?_
    refine Tw ?_
    refine Tw ?_
    refine vq_idxS hb (fun x16 hx16 hb => ?_)
    refine Tw ?_
    refine bq_if hb rfl (fun c17 hb => ?_) (fun c17 hb => ?_)
    ·have X := And.intro c17 X
     refine Tw ?_
     refine vq_subFs hb (fun t18 ht18 hb => ?_)
     refine Tw ?_
     refine bnd1 hb (fun r19 h20 hb => ?_)
     refine pq_eq (G_cond_digitsOf_ok h20) ?_
     have hb := Option.some.inj hb
     subst hb
     refine Tw ?_
     exact hX15 _ t18 (16 : Int) r19 rfl Cw
    ·have hb := Option.some.inj hb
     subst hb
     have X := And.intro c17 X
     refine Tw ?_
     exact hX15 _ s_2 (8 : Int) r11 rfl Cw
   ·intro f24 s_21 base_22 n_23 ej Y26
    subst ej
    try dsimp only at hb
    have X := And.intro Y26 X
    refine Tw ?_
    refine vq_subTs hb (fun t33 ht33 hb => ?_)
    refine Tw ?_
    refine bnd1 hb (fun j48 hj hb => ?_)
    refine wq_joinF (fun Z => ∀ (f43 : Fr) (t_42 : Bytes), t_42 = j48 → (f43 0 = (.str s_21) ∧ f43 6 = (.int .i64 base_22) ∧ f43 7 = (.int .i64 n_23) ∧ f43 8 = (.str t_42)) → Z f43) (fun Z hX36 => ?_) ?_
    ·have hr35 := hb
     clear hb
     have hb := hj
     clear hj
     refine wq_def J_cond_escape_2.eq_1 ?_
     refine Tw ?_
     refine Tw ?_
     refine bq_if hb rfl (fun c37 hb => ?_) (fun c37 hb => ?_)
     ·have X := And.intro c37 X
      refine Tw ?_
      refine bnd1 hb (fun r38 h39 hb => ?_)
      refine hq_TrimLeft h39 ?_
      refine Tw ?_
      refine bq_if hb rfl (fun c40 hb => ?_) (fun c40 hb => ?_)
      ·have X := And.intro c40 X
       refine Tw ?_
       refine bq_if hb rfl (fun c41 hb => ?_) (fun c41 hb => ?_)
       ·have hb := Option.some.inj hb
        subst hb
        have X := And.intro c41 X
        refine Tw ?_
        exact hX36 _ ([48] : Bytes) rfl Cw
       ·have hb := Option.some.inj hb
        subst hb
        have X := And.intro c41 X
        refine Tw ?_
        exact hX36 _ r38 rfl Cw
      ·have hb := Option.some.inj hb
       subst hb
       have X := And.intro c40 X
       refine Tw ?_
       exact hX36 _ r38 rfl Cw
     ·have hb := Option.some.inj hb
      subst hb
      have X := And.intro c37 X
      refine Tw ?_
      exact hX36 _ t33 rfl Cw
    ·intro f43 t_42 ej Y45
     subst ej
     try dsimp only at hb
     have X := And.intro Y45 X
     refine Tw ?_
     refine bnd2 hb (fun r53 r54 h55 hb => ?_)
     try dsimp only at hb
     refine pq_eq (G_strconv_ParseUint_ok h55) ?_
     refine Tw ?_
     refine vq_subFs hb (fun t56 ht56 hb => ?_)
     have hb := Option.some.inj hb
     obtain ⟨e0, hb⟩ := Prod.mk.inj hb
     obtain ⟨e1, e2⟩ := Prod.mk.inj hb
     subst e0
     subst e1
     subst e2
     refine Tw ?_
     exact endI rfl
def G_cond_Char (s_2 : Bytes) : Option (Int × Int) :=
 oCutSuffix (Lib.trimPrefix s_2 ([39] : Bytes)) ([39] : Bytes) >>= fun (r5, r6) =>
 (
  if (!(Lib.hasPrefix s_2 ([39] : Bytes))) then
   some (Ex2.a ((0 : Int), (50 : Int)))
  else
   if (!r6) then
    some (Ex2.a ((0 : Int), (50 : Int)))
   else
    if (r5 == ([] : Bytes)) then
     some (Ex2.a ((0 : Int), (50 : Int)))
    else
     some (Ex2.b ())
 ) >>= fun j22 => match j22 with
  | .a q => some q
  | .b () =>
   idx r5 (0 : Int) >>= fun x24 =>
   subF r5 (1 : Int) >>= fun t25 =>
   idx r5 (0 : Int) >>= fun x26 =>
   (
    if ((x24.toNat : Int) == (92 : Int)) then
     G_cond_escape t25 >>= fun (r31, r32, r33) =>
     some (r31, r32, r33)
    else
     some ((x24.toNat : Int), t25, (decide ((Lib.indexByte ([39, 10, 13] : Bytes) (Int.toNat (x26.toNat : Int)).toUInt8) < (0 : Int))))
   ) >>= fun (c_35, rest_36, ok_37) =>
   if (!ok_37) then
    some ((0 : Int), (50 : Int))
   else
    if (!(rest_36 == ([] : Bytes))) then
     some ((0 : Int), (50 : Int))
    else
     some ((IntKind.wrap .i64 (IntKind.wrap .i8 c_35)), (0 : Int))
theorem G_cond_Char_ok {s_2 : Bytes} {r3 : Int} {r4 : Int} (hx : G_cond_Char s_2 = some (r3, r4)) : PureE E 81 [(.str s_2)] (fun v => v = (.tuple [(.int .i64 r3), (.int .i64 r4)])) := by
 refine pureE_ok fn_cond_Char rfl ?_
 have hb := hx
 dsimp only [G_cond_Char] at hb
 have X := True.intro
 refine Tw ?_
 refine bnd2 hb (fun r5 r6 h7 hb => ?_)
 dsimp only at hb
 refine hq_CutSuffix h7 ?_
 refine Tw ?_
 refine bnd1 hb (fun j22 hj hb => ?_)
 refine wq_joinF (fun Z => ∀ (f17 : Fr), Ex2.b () = j22 → (f17 4 = (.str r5)) → Z f17) (fun Z hX10 => ?_) ?_
 ·have hr9 := hb
  clear hb
  have hb := hj
  clear hj
  refine wq_def J_cond_Char_1.eq_1 ?_
  refine Tw ?_
  refine Tw ?_
  refine bq_if hb rfl (fun c11 hb => ?_) (fun c11 hb => ?_)
  ·have hq := Option.some.inj hb
   subst hq
   try dsimp only at hr9
   have hb := hr9
   have hb := Option.some.inj hb
   obtain ⟨e0, e1⟩ := Prod.mk.inj hb
   subst e0
   subst e1
   have X := And.intro c11 X
   refine Tw ?_
   exact endI rfl
  ·have X := And.intro c11 X
   refine Tw ?_
   refine bq_if hb rfl (fun c13 hb => ?_) (fun c13 hb => ?_)
   ·have hq := Option.some.inj hb
    subst hq
    try dsimp only at hr9
    have hb := hr9
    have hb := Option.some.inj hb
    obtain ⟨e0, e1⟩ := Prod.mk.inj hb
    subst e0
    subst e1
    have X := And.intro c13 X
    refine Tw ?_
    exact endI rfl
   ·have X := And.intro c13 X
    refine Tw ?_
    refine bq_if hb rfl (fun c15 hb => ?_) (fun c15 hb => ?_)
    ·have hq := Option.some.inj hb
     subst hq
     try dsimp only at hr9
     have hb := hr9
     have hb := Option.some.inj hb
     obtain ⟨e0, e1⟩ := Prod.mk.inj hb
     subst e0
     subst e1
     have X := And.intro c15 X
     refine Tw ?_
     exact endI rfl
    ·have hb := Option.some.inj hb
     subst hb
     have X := And.intro c15 X
     refine Tw ?_
     exact hX10 _ rfl Cw
 ·intro f17 ej Y19
  subst ej
  try dsimp only at hb
  have X := And.intro Y19 X
  refine Tw ?_
  refine vq_idxS hb (fun x24 hx24 hb => ?_)
  refine Tw ?_
  refine vq_subFs hb (fun t25 ht25 hb => ?_)
  refine Tw ?_
  refine vq_idxS hb (fun x26 hx26 hb => ?_)
  refine Tw ?_
  refine bnd1 hb (fun j43 hj hb => ?_)
  refine wq_joinF (fun Z => ∀ (f38 : Fr) (c_35 : Int) (rest_36 : Bytes) (ok_37 : Bool), (c_35, rest_36, ok_37) = j43 → (f38 7 = (.int .u8 c_35) ∧ f38 8 = (.str rest_36) ∧ f38 9 = (.bool ok_37)) → Z f38) (fun Z hX29 => ?_) ?_
  ·have hr28 := hb
   clear hb
   have hb := hj
   clear hj
   refine wq_def J_cond_Char_2.eq_1 ?_
   refine Tw ?_
   refine Tw ?_
   refine bq_if hb rfl (fun c30 hb => ?_) (fun c30 hb => ?_)
   ·have X := And.intro c30 X
    refine Tw ?_
    refine bnd3 hb (fun r31 r32 r33 h34 hb => ?_)
    try dsimp only at hb
    refine pq_eq (G_cond_escape_ok h34) ?_
    have hb := Option.some.inj hb
    subst hb
    refine Tw ?_
    exact hX29 _ r31 r32 r33 rfl Cw
   ·have hb := Option.some.inj hb
    subst hb
    have X := And.intro c30 X
    refine Tw ?_
    exact hX29 _ (x24.toNat : Int) t25 (decide ((Lib.indexByte ([39, 10, 13] : Bytes) (Int.toNat (x26.toNat : Int)).toUInt8) < (0 : Int))) rfl Cw
  ·intro f38 c_35 rest_36 ok_37 ej Y40
   subst ej
   try dsimp only at hb
   have X := And.intro Y40 X
   refine Tw ?_
   refine bq_if hb rfl (fun c47 hb => ?_) (fun c47 hb => ?_)
   ·have hb := Option.some.inj hb
    obtain ⟨e0, e1⟩ := Prod.mk.inj hb
    subst e0
    subst e1
    have X := And.intro c47 X
    refine Tw ?_
    exact endI rfl
   ·have X := And.intro c47 X
    refine Tw ?_
    refine bq_if hb rfl (fun c48 hb => ?_) (fun c48 hb => ?_)
    ·have hb := Option.some.inj hb
     obtain ⟨e0, e1⟩ := Prod.mk.inj hb
     subst e0
     subst e1
     have X := And.intro c48 X
     refine Tw ?_
     exact endI rfl
    ·have hb := Option.some.inj hb
     obtain ⟨e0, e1⟩ := Prod.mk.inj hb
     subst e0
     subst e1
     have X := And.intro c48 X
     refine Tw ?_
     exact endI rfl
def G_cond_eval_atom_b (F : Rec_cond_eval_choice) (p_2 : T_cond_eval) (counts_9 : Bool) : Option (T_cond_value × T_cond_eval) :=
 G_cond_eval_take p_2 ([40] : Bytes) >>= fun (r21, p22) =>
 if r21 then
  F.cond_eval_choice p22 counts_9 >>= fun (r35, p36) =>
  G_cond_eval_take p36 ([41] : Bytes) >>= fun (r51, p52) =>
  G_cond_eval_fails p52 (!r51) >>= fun p64 =>
  some (r35, p64)
 else
  (
   if p22.bad_ then
    some (Ex2.a ((T_cond_value.mk (0 : Int) false), (T_cond_eval.mk p22.l_ true)))
   else
    if (((List.length p22.l_ : Nat) : Int) == (0 : Int)) then
     some (Ex2.a ((T_cond_value.mk (0 : Int) false), (T_cond_eval.mk p22.l_ true)))
    else
     some (Ex2.b ())
  ) >>= fun j96 => match j96 with
   | .a q => some q
   | .b () =>
    idx p22.l_ (0 : Int) >>= fun x99 =>
    subF p22.l_ (1 : Int) >>= fun t104 =>
    if (x99.Kind_ == (1 : Int)) then
     some ((T_cond_value.mk (0 : Int) false), (T_cond_eval.mk t104 p22.bad_))
    else
     if (x99.Kind_ == (2 : Int)) then
      G_cond_Number x99.S_ >>= fun (r112, r113, r114) =>
      if (!(r114 == (0 : Int))) then
       G_cond_eval_fails (T_cond_eval.mk t104 p22.bad_) true >>= fun p117 =>
       some ((T_cond_value.mk r112 r113), p117)
      else
       if (!r113) then
        G_cond_eval_fails (T_cond_eval.mk t104 p22.bad_) (decide ((IntKind.wrap .i64 r112) < (0 : Int))) >>= fun p132 =>
        some ((T_cond_value.mk r112 r113), p132)
       else
        G_cond_eval_fails (T_cond_eval.mk t104 p22.bad_) false >>= fun p146 =>
        some ((T_cond_value.mk r112 r113), p146)
     else
      if (x99.Kind_ == (3 : Int)) then
       G_cond_Char x99.S_ >>= fun (r161, r162) =>
       G_cond_eval_fails (T_cond_eval.mk t104 p22.bad_) (!(r162 == (0 : Int))) >>= fun p164 =>
       some ((T_cond_value.mk (IntKind.wrap .u64 r161) false), p164)
      else
       some ((T_cond_value.mk (0 : Int) false), (T_cond_eval.mk t104 true))
end Go.Proofs.YtmngkcpobmhnoaaGreatDoor.Sim
