/- NodeTexts: walked. -/
import Derived.Test.YtnomgkmeomlccaaGreatOpd
set_option linter.unusedVariables false
set_option linter.unusedSimpArgs false
namespace Go.Proofs.YtnomgkmeomlccaaGreat.Opn
open Go.RowKit Go.Sort Rd Api _root_.Go.Proofs.YtnomgkmeomlccaaGreat.Own Mv App Num Dig

theorem Ml.below {w W : World} {x : Msg} {A : Option Addr} {n c : Nat} {B : Option Addr} {m d : Nat} {C : Option Addr} {k e : Nat} {D : Option Addr} {l f : Nat} (h : Ml w x A n c B m d C k e D l f) (hb : RowKit.Below w.heap.size w W) : Ml W x A n c B m d C k e D l f :=
  ⟨h.hn, h.hm, h.hk, h.hl, h.sa.below hb, h.sb.below hb, h.sc.below hb, h.sd.below hb⟩
theorem load_msg {W : World} {g : Nat} {cs : Array Value} {ty : TypeId} {fr : Nat × Nat} (hc : cs.size = 21) (h : W.heap[g]? = some (.cells cs ty fr)) : (Instr.loadAt 34 (.pointer (some ⟨g, 0, none⟩))).run Tryz.prog W = .ok (.agg cs) W := by
  simp only [Instr.loadAt, Instr.sureAddr, Sem.run_bind, Sem.run_pure, Result.andThen_ok]
  exact run_loadVar_row W g ty 34 cs fr _ h Tryz.underlying34 rfl (by rw [hc]; kernel_rfl)
noncomputable def ldElse (g : Nat) (W : World) := (Instr.loadAt 34 (.pointer (some ⟨g, 0, none⟩))).run Tryz.prog W
noncomputable def ldPick (g : Nat) (W : World) (o : Option Obj) := match o with
  | some (.cells cs _ _) => if cs.size = 21 then Result.ok (Value.agg cs) W else ldElse g W
  | _ => ldElse g W
theorem ldPick_21 (g : Nat) (W : World) (a0 a1 a2 a3 a4 a5 a6 a7 a8 a9 a10 a11 a12 a13 a14 a15 a16 a17 a18 a19 a20 : Value) (ty : TypeId) (fr : Nat × Nat) : ldPick g W (some (.cells #[a0, a1, a2, a3, a4, a5, a6, a7, a8, a9, a10, a11, a12, a13, a14, a15, a16, a17, a18, a19, a20] ty fr)) = .ok (.agg #[a0, a1, a2, a3, a4, a5, a6, a7, a8, a9, a10, a11, a12, a13, a14, a15, a16, a17, a18, a19, a20]) W := rfl
theorem load_pre (g : Nat) (W : World) : (Instr.loadAt 34 (.pointer (some ⟨g, 0, none⟩))).run Tryz.prog W = ldPick g W W.heap[g]? := by
  unfold ldPick
  split
  · next cs ty fr h =>
    split
    · next hc => exact load_msg hc h
    · rfl
  · rfl
noncomputable def ldA (x : Value) := Instr.loadAt 34 x
theorem ldA_alias (x : Value) : Instr.loadAt 34 x = ldA x := rfl
theorem ldA_run (g : Nat) (W : World) : (ldA (.pointer (some ⟨g, 0, none⟩))).run Tryz.prog W = ldPick g W W.heap[g]? := load_pre g W
attribute [local go_sem ↓] ldA_alias
attribute [local go_sem] ldA_run
attribute [local go_sem] ldPick_21
set_option maxHeartbeats 8000000 in
set_option maxRecDepth 100000 in
theorem nt_law (w : World) (x : Msg) (A : Option Addr) (n c : Nat) (B : Option Addr) (m d : Nat) (C : Option Addr) (k e : Nat) (D : Option Addr) (l f : Nat) (h : Ml w x A n c B m d C k e D l f) :
    Calls Tryz.prog 3 #[.agg #[.int .i64 x.kind, .int .i64 x.frm, .int .i64 x.too, .int .i64 x.view, .string x.hash, .int .i64 x.blk.view, .int .i64 x.blk.prop, .int .i64 x.blk.just.view, .string x.blk.just.block, .slice A n c, .slice B m d, .int .i64 x.crt.view, .string x.crt.block, .slice C k e, .int .i64 x.sig.node, .slice D l f, .int .i64 x.req.c, .int .i64 x.req.s, .string x.req.b, .int .i64 x.index, .string x.tag]] w fun e w' => e = .returned (.bool true) ∧ RowKit.Below w.heap.size w w' := by
  have mixed : Tryz.prog.follows .mixedOrders = true := by kernel_rfl
  have HB0 := Sd.mk (below_one w (.cells #[.int .i64 x.kind, .int .i64 x.frm, .int .i64 x.too, .int .i64 x.view, .string x.hash, .int .i64 x.blk.view, .int .i64 x.blk.prop, .int .i64 x.blk.just.view, .string x.blk.just.block, .slice A n c, .slice B m d, .int .i64 x.crt.view, .string x.crt.block, .slice C k e, .int .i64 x.sig.node, .slice D l f, .int .i64 x.req.c, .int .i64 x.req.s, .string x.req.b, .int .i64 x.index, .string x.tag] 34))
  have X0 := Sd.mk (blk_new w (.cells #[.int .i64 x.kind, .int .i64 x.frm, .int .i64 x.too, .int .i64 x.view, .string x.hash, .int .i64 x.blk.view, .int .i64 x.blk.prop, .int .i64 x.blk.just.view, .string x.blk.just.block, .slice A n c, .slice B m d, .int .i64 x.crt.view, .string x.crt.block, .slice C k e, .int .i64 x.sig.node, .slice D l f, .int .i64 x.req.c, .int .i64 x.req.s, .string x.req.b, .int .i64 x.index, .string x.tag] 34))
  have HM := Sd.mk (h.below HB0.out)
  obtain ⟨t, ht⟩ : ∃ t, txB x = t := ⟨_, rfl⟩
  have HFM := Sd.mk (fun W (hb : RowKit.Below (w.alloc (.cells #[.int .i64 x.kind, .int .i64 x.frm, .int .i64 x.too, .int .i64 x.view, .string x.hash, .int .i64 x.blk.view, .int .i64 x.blk.prop, .int .i64 x.blk.just.view, .string x.blk.just.block, .slice A n c, .slice B m d, .int .i64 x.crt.view, .string x.crt.block, .slice C k e, .int .i64 x.sig.node, .slice D l f, .int .i64 x.req.c, .int .i64 x.req.s, .string x.req.b, .int .i64 x.index, .string x.tag] 34)).heap.size (w.alloc (.cells #[.int .i64 x.kind, .int .i64 x.frm, .int .i64 x.too, .int .i64 x.view, .string x.hash, .int .i64 x.blk.view, .int .i64 x.blk.prop, .int .i64 x.blk.just.view, .string x.blk.just.block, .slice A n c, .slice B m d, .int .i64 x.crt.view, .string x.crt.block, .slice C k e, .int .i64 x.sig.node, .slice D l f, .int .i64 x.req.c, .int .i64 x.req.s, .string x.req.b, .int .i64 x.index, .string x.tag] 34)) W) => fewmsg_any W x A n c B m d C k e D l f (HM.out.below hb))
  have HT1 := Sd.mk (fun (hf : msgFew x) W (hb : RowKit.Below (w.alloc (.cells #[.int .i64 x.kind, .int .i64 x.frm, .int .i64 x.too, .int .i64 x.view, .string x.hash, .int .i64 x.blk.view, .int .i64 x.blk.prop, .int .i64 x.blk.just.view, .string x.blk.just.block, .slice A n c, .slice B m d, .int .i64 x.crt.view, .string x.crt.block, .slice C k e, .int .i64 x.sig.node, .slice D l f, .int .i64 x.req.c, .int .i64 x.req.s, .string x.req.b, .int .i64 x.index, .string x.tag] 34)).heap.size (w.alloc (.cells #[.int .i64 x.kind, .int .i64 x.frm, .int .i64 x.too, .int .i64 x.view, .string x.hash, .int .i64 x.blk.view, .int .i64 x.blk.prop, .int .i64 x.blk.just.view, .string x.blk.just.block, .slice A n c, .slice B m d, .int .i64 x.crt.view, .string x.crt.block, .slice C k e, .int .i64 x.sig.node, .slice D l f, .int .i64 x.req.c, .int .i64 x.req.s, .string x.req.b, .int .i64 x.index, .string x.tag] 34)) W) => text_any W x A n c B m d C k e D l f (HM.out.below hb) hf t ht)
  have HT2 := Sd.mk (fun (hf : msgFew x) W (hb : RowKit.Below (w.alloc (.cells #[.int .i64 x.kind, .int .i64 x.frm, .int .i64 x.too, .int .i64 x.view, .string x.hash, .int .i64 x.blk.view, .int .i64 x.blk.prop, .int .i64 x.blk.just.view, .string x.blk.just.block, .slice A n c, .slice B m d, .int .i64 x.crt.view, .string x.crt.block, .slice C k e, .int .i64 x.sig.node, .slice D l f, .int .i64 x.req.c, .int .i64 x.req.s, .string x.req.b, .int .i64 x.index, .string x.tag] 34)).heap.size (w.alloc (.cells #[.int .i64 x.kind, .int .i64 x.frm, .int .i64 x.too, .int .i64 x.view, .string x.hash, .int .i64 x.blk.view, .int .i64 x.blk.prop, .int .i64 x.blk.just.view, .string x.blk.just.block, .slice A n c, .slice B m d, .int .i64 x.crt.view, .string x.crt.block, .slice C k e, .int .i64 x.sig.node, .slice D l f, .int .i64 x.req.c, .int .i64 x.req.s, .string x.req.b, .int .i64 x.index, .string x.tag] 34)) W) => rtext_any W x A n c B m d C k e D l f (HM.out.below hb) hf t ht)
  clear h ht HM
  go_enter Tryz.func3, Tryz.ntmps3
  go_upto_region 1 with (fail)
  generalize hBx : w.heap.size = Bx at X0 ⊢
  generalize w.alloc _ = W1 at HB0 X0 HFM HT1 HT2 ⊢
  obtain ⟨v, hv⟩ : ∃ v : Nat → Value, #[.int .i64 x.kind, .int .i64 x.frm, .int .i64 x.too, .int .i64 x.view, .string x.hash, .int .i64 x.blk.view, .int .i64 x.blk.prop, .int .i64 x.blk.just.view, .string x.blk.just.block, .slice A n c, .slice B m d, .int .i64 x.crt.view, .string x.crt.block, .slice C k e, .int .i64 x.sig.node, .slice D l f, .int .i64 x.req.c, .int .i64 x.req.s, .string x.req.b, .int .i64 x.index, .string x.tag] = #[v 0, v 1, v 2, v 3, v 4, v 5, v 6, v 7, v 8, v 9, v 10, v 11, v 12, v 13, v 14, v 15, v 16, v 17, v 18, v 19, v 20] := ⟨fun i => (#[.int .i64 x.kind, .int .i64 x.frm, .int .i64 x.too, .int .i64 x.view, .string x.hash, .int .i64 x.blk.view, .int .i64 x.blk.prop, .int .i64 x.blk.just.view, .string x.blk.just.block, .slice A n c, .slice B m d, .int .i64 x.crt.view, .string x.crt.block, .slice C k e, .int .i64 x.sig.node, .slice D l f, .int .i64 x.req.c, .int .i64 x.req.s, .string x.req.b, .int .i64 x.index, .string x.tag]).getD i undef, rfl⟩
  rw [hv] at X0 HFM HT1 HT2 ⊢
  clear hv
  go_upto_region 3 with (first
    | (go_at_call 4; (with_reducible refine (awake_any _).mono ?_); rintro e w2 ⟨rfl, hb⟩; (first | (have HB4 := Sd.mk (below_then HB3.out hb)) | (have HB2 := Sd.mk (below_then HB0.out hb); have HK2 := Sd.mk hb; have X2 := Sd.mk (blk_keep X0.out hb); have x2 := X2.out)); clear hb)
    | (go_at_call 5; (with_reducible refine (HFM.out _ HK2.out).mono ?_); rintro e w3 ⟨r, rfl, hr, hb⟩; have HB3 := Sd.mk (below_then HB2.out hb); have HK3 := Sd.mk (below_then HK2.out hb); have X3 := Sd.mk (blk_keep X2.out hb); have HR := Sd.mk hr; clear hr hb x2; cases r))
  · go_ret
    exact ⟨rfl, by have h := HB4.out; first | exact h | rwa [hBx] at h⟩
  · have HT1 := Sd.mk (fun W hb => HT1.out (HR.out trivial) W (below_then HK3.out hb))
    have HT2 := Sd.mk (fun W hb => HT2.out (HR.out trivial) W (below_then HK3.out hb))
    clear HFM HR HB2 HK2 HK3 X2 X0 HB0
    have x3 := fun d os => blk_keep X3.out (below_regrown w3 d os)
    refine wp_region_quiet_below (by assumption) (by kernel_rfl) ?_
    repeat (go_big_quiet_step ((first | (go_at_call 6; with_reducible refine Calls.regrown_of (HT1.out _ (below_regrown _ _ _))) | (go_at_call 7; with_reducible refine Calls.regrown_of (HT2.out _ (below_regrown _ _ _))))))
    refine wpQuiet_nil ?_
    rintro W9 ⟨⟨nq, osq⟩, rfl⟩
    have HB9 := Sd.mk (below_then HB3.out (below_regrown w3 nq osq))
    clear x3
    go_wp2
    go_ret
    exact ⟨rfl, by have h := HB9.out; first | exact h | rwa [hBx] at h⟩
theorem nt_row (w : World) (x : Msg) (cs : Array Value) (h : msgK.K w x cs.toList) :
    Calls Tryz.prog 3 #[.agg cs] w fun e w' => e = .returned (.bool true) ∧ RowKit.Below w.heap.size w w' := by
  obtain ⟨A, n, c, B, m, d, C, k, e, D, l, f, e1, hm⟩ := msg_open h
  obtain rfl := Api.arr_of e1
  exact nt_law w x A n c B m d C k e D l f hm
end Go.Proofs.YtnomgkmeomlccaaGreat.Opn
