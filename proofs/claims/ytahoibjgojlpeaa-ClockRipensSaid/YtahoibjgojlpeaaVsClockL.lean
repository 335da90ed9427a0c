/- The conditions of functions, as the generator reckons them out, each with the proof that it is that. -/
import Derived.Test.YtahoibjgojlpeaaCtx
namespace Go.Proofs.Ytahoibjgojlpeaa
open Go Go.Vc
set_option maxRecDepth 100000
set_option linter.unusedVariables false

def tollerlaw09_ClockIs_vc (window : Int) (ticks : Int) (final : Int) (slots : Sl) (h : Heap) (R : Value → Heap → Prop) : Prop :=
  CallsH Try.prog (13 : Nat) (TVs.vals []) h fun (v : Value) (h : Heap) ↦
    ∃ (b : Bool),
      v = TV.val (TV.bool b) ∧
        If (!b) (R (TV.val (TV.bool false)) h)
          (Join
            (fun (s : Bool) (h : Array Obj) ↦
              Join
                (fun (s : Bool) (h : Array Obj) ↦
                  CallsH Try.prog (20 : Nat) (TVs.vals [TV.int IntKind.i64 window]) h fun (v : Value) (h : Array Obj) ↦
                    ∃ (p : Option Go.Vc.Loc),
                      v = TV.val (TV.ptr p) ∧
                        CallsH Try.prog (21 : Nat) (TVs.vals [TV.int IntKind.i64 window]) h fun (v : Value) (h : Array Obj) ↦
                          ∃ (p_1 : Option Go.Vc.Loc),
                            v = TV.val (TV.ptr p_1) ∧
                              Go.Vc.Loop (s, (0 : Int)) h fun (s_1 : Bool × Int) (h : Array Obj) (K : Bool × Int → Array Obj → Prop) ↦
                                If (decide (s_1.snd < ticks))
                                  (CallsH Try.prog (15 : Nat) (TVs.vals [TV.ptr p]) h fun (v : Value) (h : Array Obj) ↦
                                    ∃ (b_1 : Bool),
                                      v = TV.val (TV.bool b_1) ∧
                                        CallsH Try.prog (22 : Nat) (TVs.vals [TV.ptr p_1]) h fun (v : Value) (h : Array Obj) ↦
                                          ∃ (b_2 : Bool),
                                            v = TV.val (TV.bool b_2) ∧
                                              If (!b_1 == b_2) (R (TV.val (TV.bool false)) h) (K (s_1.fst, IntKind.wrap IntKind.i64 (s_1.snd + (1 : Int))) h))
                                  (Go.Vc.Loop (s_1.1, (0 : Int)) h fun (s_2 : Bool × Int) (h : Array Obj) (K : Bool × Int → Array Obj → Prop) ↦
                                    If (decide (s_2.snd < (↑slots.len : Int)))
                                      ((0 : Int) ≤ s_2.snd ∧
                                        s_2.snd < (↑slots.len : Int) ∧
                                          Nn slots.a fun (l : Go.Vc.Loc) ↦
                                            ∃ (n : Int),
                                              at1 h l.b (l.o + Int.toNat s_2.snd * (1 : Nat)) (Value.int IntKind.i64 n) ∧
                                                If (decide (n = (-9223372036854775808 : Int))) (R (TV.val (TV.bool true)) h)
                                                  (CallsH Try.prog (17 : Nat) (TVs.vals [TV.ptr p, TV.int IntKind.i64 final, TV.int IntKind.i64 n]) h
                                                    fun (v : Value) (h : Array Obj) ↦
                                                    ∃ (b_1 : Bool),
                                                      v = TV.val (TV.bool b_1) ∧
                                                        CallsH Try.prog (23 : Nat) (TVs.vals [TV.ptr p_1, TV.int IntKind.i64 final, TV.int IntKind.i64 n]) h
                                                          fun (v : Value) (h : Array Obj) ↦
                                                          ∃ (b_2 : Bool),
                                                            v = TV.val (TV.bool b_2) ∧
                                                              If (!b_1 == b_2) (R (TV.val (TV.bool false)) h)
                                                                (CallsH Try.prog (18 : Nat) (TVs.vals [TV.ptr p, TV.int IntKind.i64 n]) h
                                                                  fun (v : Value) (h : Array Obj) ↦
                                                                  ∃ (b_3 : Bool),
                                                                    v = TV.val (TV.bool b_3) ∧
                                                                      CallsH Try.prog (24 : Nat) (TVs.vals [TV.ptr p_1, TV.int IntKind.i64 n]) h
                                                                        fun (v : Value) (h : Array Obj) ↦
                                                                        ∃ (b_4 : Bool),
                                                                          v = TV.val (TV.bool b_4) ∧
                                                                            If (!b_3 == b_4) (R (TV.val (TV.bool false)) h)
                                                                              (CallsH Try.prog (19 : Nat) (TVs.vals [TV.ptr p, TV.int IntKind.i64 n]) h
                                                                                fun (v : Value) (h : Array Obj) ↦
                                                                                ∃ (b_5 : Bool),
                                                                                  v = TV.val (TV.bool b_5) ∧
                                                                                    CallsH Try.prog (25 : Nat) (TVs.vals [TV.ptr p_1, TV.int IntKind.i64 n]) h
                                                                                      fun (v : Value) (h : Array Obj) ↦
                                                                                      ∃ (b_6 : Bool),
                                                                                        v = TV.val (TV.bool b_6) ∧
                                                                                          If (!b_5 == b_6) (R (TV.val (TV.bool false)) h)
                                                                                            (K (s_2.fst, IntKind.wrap IntKind.i64 (s_2.snd + (1 : Int))) h)))))
                                      (Nn p_1 fun (l : Go.Vc.Loc) ↦
                                        ∃ (n : Int),
                                          at1 h l.b l.o (Value.int IntKind.i64 n) ∧
                                            CallsH Try.prog (14 : Nat) (TVs.vals [TV.ptr p]) h fun (v : Value) (h_1 : Array Obj) ↦
                                              ∃ (n_1 : Int),
                                                v = TV.val (TV.int IntKind.i64 n_1) ∧
                                                  Ext h h_1 ∧
                                                    If (decide (n_1 = n))
                                                      (CallsH Try.prog (16 : Nat) (TVs.vals [TV.ptr p]) h_1 fun (v : Value) (h_2 : Array Obj) ↦
                                                        ∃ (n : Int),
                                                          v = TV.val (TV.int IntKind.i64 n) ∧
                                                            Ext h h_2 ∧
                                                              CallsH Try.prog (26 : Nat) (TVs.vals [TV.ptr p_1]) h_2 fun (v : Value) (h_3 : Array Obj) ↦
                                                                ∃ (n_2 : Int),
                                                                  v = TV.val (TV.int IntKind.i64 n_2) ∧ Ext h h_3 ∧ R (TV.val (TV.bool (decide (n = n_2)))) h_3)
                                                      (R (TV.val (TV.bool false)) h_1))))
                fun (J : Bool → Array Obj → Prop) ↦
                CallsH Try.prog (14 : Nat) (TVs.vals [TV.ptr none]) h fun (v : Value) (h : Array Obj) ↦
                  ∃ (n : Int),
                    v = TV.val (TV.int IntKind.i64 n) ∧
                      If (!decide (n = (0 : Int))) (R (TV.val (TV.bool false)) h)
                        (CallsH Try.prog (15 : Nat) (TVs.vals [TV.ptr none]) h fun (v : Value) (h : Array Obj) ↦
                          ∃ (b : Bool),
                            v = TV.val (TV.bool b) ∧
                              If b (R (TV.val (TV.bool false)) h)
                                (CallsH Try.prog (16 : Nat) (TVs.vals [TV.ptr none]) h fun (v : Value) (h : Array Obj) ↦
                                  ∃ (n : Int),
                                    v = TV.val (TV.int IntKind.i64 n) ∧
                                      If (!decide (n = (0 : Int))) (R (TV.val (TV.bool false)) h)
                                        (CallsH Try.prog (17 : Nat) (TVs.vals [TV.ptr none, TV.int IntKind.i64 (0 : Int), TV.int IntKind.i64 (0 : Int)]) h
                                          fun (v : Value) (h : Array Obj) ↦
                                          ∃ (b : Bool),
                                            v = TV.val (TV.bool b) ∧
                                              If b (R (TV.val (TV.bool false)) h)
                                                (CallsH Try.prog (18 : Nat) (TVs.vals [TV.ptr none, TV.int IntKind.i64 (0 : Int)]) h
                                                  fun (v : Value) (h : Array Obj) ↦
                                                  ∃ (b : Bool),
                                                    v = TV.val (TV.bool b) ∧
                                                      If b (R (TV.val (TV.bool false)) h)
                                                        (CallsH Try.prog (19 : Nat) (TVs.vals [TV.ptr none, TV.int IntKind.i64 (-1 : Int)]) h
                                                          fun (v : Value) (h : Array Obj) ↦
                                                          ∃ (b : Bool), v = TV.val (TV.bool b) ∧ If b (R (TV.val (TV.bool false)) h) (J s h)))))))
            fun (J : Bool → Array Obj → Prop) ↦
            If (decide (ticks < (0 : Int))) (R (TV.val (TV.bool true)) h)
              (If (decide ((500 : Int) < ticks)) (R (TV.val (TV.bool true)) h)
                (If (decide ((100 : Int) < (↑slots.len : Int))) (R (TV.val (TV.bool true)) h) (J false h))))

theorem tollerlaw09_ClockIs_calls (window : Int) (ticks : Int) (final : Int) (slots : Sl) (h : Heap) (R : Value → Heap → Prop) (H : tollerlaw09_ClockIs_vc window ticks final slots h R) : CallsH Try.prog 3 (TVs.vals [TV.int IntKind.i64 window, TV.int IntKind.i64 ticks, TV.int IntKind.i64 final, TV.slice slots]) h R :=
  vcFn_sound (C := ctx) ctx_ok (fn := Try.f3) Try.func3 ((by kernel_rfl : tollerlaw09_ClockIs_vc window ticks final slots h R = vcFn ctx Try.f3 [TV.int IntKind.i64 window, TV.int IntKind.i64 ticks, TV.int IntKind.i64 final, TV.slice slots] h R) ▸ H)


def tollerlaw09_ClockRipens_vc (window : Int) (ticks : Int) (slot : Int) (h : Heap) (R : Value → Heap → Prop) : Prop :=
  CallsH Try.prog (13 : Nat) (TVs.vals []) h fun (v : Value) (h : Heap) ↦
    ∃ (b : Bool),
      v = TV.val (TV.bool b) ∧
        If (!b) (R (TV.val (TV.bool false)) h)
          (Join
            (fun (s : Bool) (h : Array Obj) ↦
              CallsH Try.prog (20 : Nat) (TVs.vals [TV.int IntKind.i64 window]) h fun (v : Value) (h : Array Obj) ↦
                ∃ (p : Option Go.Vc.Loc),
                  v = TV.val (TV.ptr p) ∧
                    Go.Vc.Loop (0 : Int) h fun (s_1 : Int) (h : Array Obj) (K : Int → Array Obj → Prop) ↦
                      If (decide (s_1 < ticks))
                        (CallsH Try.prog (15 : Nat) (TVs.vals [TV.ptr p]) h fun (v : Value) (h : Array Obj) ↦
                          ∃ (b : Bool), v = TV.val (TV.bool b) ∧ K (IntKind.wrap IntKind.i64 (s_1 + (1 : Int))) h)
                        (CallsH Try.prog (18 : Nat) (TVs.vals [TV.ptr p, TV.int IntKind.i64 slot]) h fun (v : Value) (h : Array Obj) ↦
                          ∃ (b : Bool),
                            v = TV.val (TV.bool b) ∧
                              CallsH Try.prog (19 : Nat) (TVs.vals [TV.ptr p, TV.int IntKind.i64 slot]) h fun (v : Value) (h : Array Obj) ↦
                                ∃ (b_1 : Bool),
                                  v = TV.val (TV.bool b_1) ∧
                                    CallsH Try.prog (15 : Nat) (TVs.vals [TV.ptr p]) h fun (v : Value) (h : Array Obj) ↦
                                      ∃ (b_2 : Bool),
                                        v = TV.val (TV.bool b_2) ∧
                                          Join
                                            (fun (s : Bool) (h : Array Obj) ↦
                                              CallsH Try.prog (18 : Nat) (TVs.vals [TV.ptr p, TV.int IntKind.i64 slot]) h fun (v : Value) (h : Array Obj) ↦
                                                ∃ (b : Bool),
                                                  v = TV.val (TV.bool b) ∧
                                                    CallsH Try.prog (16 : Nat) (TVs.vals [TV.ptr p]) h fun (v : Value) (h : Array Obj) ↦
                                                      ∃ (n : Int),
                                                        v = TV.val (TV.int IntKind.i64 n) ∧
                                                          If (decide (n ≤ slot))
                                                            (CallsH Try.prog (14 : Nat) (TVs.vals [TV.ptr p]) h fun (v : Value) (h : Array Obj) ↦
                                                              ∃ (n : Int),
                                                                v = TV.val (TV.int IntKind.i64 n) ∧
                                                                  R (TV.val (TV.bool (b == decide (slot ≤ IntKind.wrap IntKind.i64 (n + (1 : Int)))))) h)
                                                            (R (TV.val (TV.bool (b == false))) h))
                                            fun (J : Bool → Array Obj → Prop) ↦
                                            If b
                                              (CallsH Try.prog (19 : Nat) (TVs.vals [TV.ptr p, TV.int IntKind.i64 slot]) h fun (v : Value) (h : Array Obj) ↦
                                                ∃ (b : Bool),
                                                  v = TV.val (TV.bool b) ∧
                                                    If (!b)
                                                      (CallsH Try.prog (18 : Nat) (TVs.vals [TV.ptr p, TV.int IntKind.i64 slot]) h
                                                        fun (v : Value) (h : Array Obj) ↦
                                                        ∃ (b : Bool),
                                                          v = TV.val (TV.bool b) ∧
                                                            If (!b) (R (TV.val (TV.bool false)) h)
                                                              (If b_1
                                                                (CallsH Try.prog (19 : Nat) (TVs.vals [TV.ptr p, TV.int IntKind.i64 slot]) h
                                                                  fun (v : Value) (h : Array Obj) ↦
                                                                  ∃ (b : Bool), v = TV.val (TV.bool b) ∧ If (!b) (R (TV.val (TV.bool false)) h) (J s h))
                                                                (J s h)))
                                                      (If b_1
                                                        (CallsH Try.prog (19 : Nat) (TVs.vals [TV.ptr p, TV.int IntKind.i64 slot]) h
                                                          fun (v : Value) (h : Array Obj) ↦
                                                          ∃ (b : Bool), v = TV.val (TV.bool b) ∧ If (!b) (R (TV.val (TV.bool false)) h) (J s h))
                                                        (J s h)))
                                              (If b_1
                                                (CallsH Try.prog (19 : Nat) (TVs.vals [TV.ptr p, TV.int IntKind.i64 slot]) h fun (v : Value) (h : Array Obj) ↦
                                                  ∃ (b : Bool), v = TV.val (TV.bool b) ∧ If (!b) (R (TV.val (TV.bool false)) h) (J s h))
                                                (J s h))))
            fun (J : Bool → Array Obj → Prop) ↦
            If (decide (ticks < (0 : Int))) (R (TV.val (TV.bool true)) h) (If (decide ((500 : Int) < ticks)) (R (TV.val (TV.bool true)) h) (J false h)))

theorem tollerlaw09_ClockRipens_calls (window : Int) (ticks : Int) (slot : Int) (h : Heap) (R : Value → Heap → Prop) (H : tollerlaw09_ClockRipens_vc window ticks slot h R) : CallsH Try.prog 4 (TVs.vals [TV.int IntKind.i64 window, TV.int IntKind.i64 ticks, TV.int IntKind.i64 slot]) h R :=
  vcFn_sound (C := ctx) ctx_ok (fn := Try.f4) Try.func4 ((by kernel_rfl : tollerlaw09_ClockRipens_vc window ticks slot h R = vcFn ctx Try.f4 [TV.int IntKind.i64 window, TV.int IntKind.i64 ticks, TV.int IntKind.i64 slot] h R) ▸ H)


def tollerlaw09_ClockCounts_vc (window : Int) (ticks : Int) (final : Int) (h : Heap) (R : Value → Heap → Prop) : Prop :=
  CallsH Try.prog (13 : Nat) (TVs.vals []) h fun (v : Value) (h : Heap) ↦
    ∃ (b : Bool),
      v = TV.val (TV.bool b) ∧
        If (!b) (R (TV.val (TV.bool false)) h)
          (Join
            (fun (s : Bool) (h : Array Obj) ↦
              CallsH Try.prog (20 : Nat) (TVs.vals [TV.int IntKind.i64 window]) h fun (v : Value) (h : Array Obj) ↦
                ∃ (p : Option Go.Vc.Loc),
                  v = TV.val (TV.ptr p) ∧
                    Go.Vc.Loop (0 : Int) h fun (s : Int) (h : Array Obj) (K : Int → Array Obj → Prop) ↦
                      If (decide (s < ticks))
                        (CallsH Try.prog (15 : Nat) (TVs.vals [TV.ptr p]) h fun (v : Value) (h : Array Obj) ↦
                          ∃ (b : Bool), v = TV.val (TV.bool b) ∧ K (IntKind.wrap IntKind.i64 (s + (1 : Int))) h)
                        (Go.Vc.Loop ((0 : Int), (0 : Int), (0 : Int)) h fun (s_1 : Int × Int × Int) (h : Array Obj) (K : Int × Int × Int → Array Obj → Prop) ↦
                          If (decide (s_1.snd.snd ≤ (700 : Int)))
                            (CallsH Try.prog (18 : Nat) (TVs.vals [TV.ptr p, TV.int IntKind.i64 s_1.snd.snd]) h fun (v : Value) (h : Array Obj) ↦
                              ∃ (b_1 : Bool),
                                v = TV.val (TV.bool b_1) ∧
                                  If b_1
                                    (CallsH Try.prog (17 : Nat) (TVs.vals [TV.ptr p, TV.int IntKind.i64 final, TV.int IntKind.i64 s_1.snd.snd]) h
                                      fun (v : Value) (h : Array Obj) ↦
                                      ∃ (b_2 : Bool),
                                        v = TV.val (TV.bool b_2) ∧
                                          If b_2
                                            (K
                                              (IntKind.wrap IntKind.i64 (s_1.fst + (1 : Int)), IntKind.wrap IntKind.i64 (s_1.snd.fst + (1 : Int)),
                                                IntKind.wrap IntKind.i64 (s_1.snd.snd + (1 : Int)))
                                              h)
                                            (K (IntKind.wrap IntKind.i64 (s_1.fst + (1 : Int)), s_1.snd.fst, IntKind.wrap IntKind.i64 (s_1.snd.snd + (1 : Int)))
                                              h))
                                    (CallsH Try.prog (17 : Nat) (TVs.vals [TV.ptr p, TV.int IntKind.i64 final, TV.int IntKind.i64 s_1.snd.snd]) h
                                      fun (v : Value) (h : Array Obj) ↦
                                      ∃ (b_2 : Bool),
                                        v = TV.val (TV.bool b_2) ∧
                                          If b_2
                                            (K (s_1.fst, IntKind.wrap IntKind.i64 (s_1.snd.fst + (1 : Int)), IntKind.wrap IntKind.i64 (s_1.snd.snd + (1 : Int)))
                                              h)
                                            (K (s_1.fst, s_1.snd.fst, IntKind.wrap IntKind.i64 (s_1.snd.snd + (1 : Int))) h)))
                            (If (decide (s_1.fst = IntKind.wrap IntKind.i64 (mn ticks (mn (mx window (1 : Int)) (64 : Int)) + (2 : Int))))
                              (If (decide (s_1.snd.fst = mx (IntKind.wrap IntKind.i64 (ticks - final)) (0 : Int)))
                                (CallsH Try.prog (14 : Nat) (TVs.vals [TV.ptr p]) h fun (v : Value) (h : Array Obj) ↦
                                  ∃ (n : Int),
                                    v = TV.val (TV.int IntKind.i64 n) ∧
                                      If (decide (n = ticks))
                                        (CallsH Try.prog (16 : Nat) (TVs.vals [TV.ptr p]) h fun (v : Value) (h : Array Obj) ↦
                                          ∃ (n : Int),
                                            v = TV.val (TV.int IntKind.i64 n) ∧
                                              R
                                                (TV.val
                                                  (TV.bool (decide (n = mx (IntKind.wrap IntKind.i64 (ticks - mn (mx window (1 : Int)) (64 : Int))) (0 : Int)))))
                                                h)
                                        (R (TV.val (TV.bool false)) h))
                                (R (TV.val (TV.bool false)) h))
                              (R (TV.val (TV.bool false)) h))))
            fun (J : Bool → Array Obj → Prop) ↦
            If (decide (ticks < (0 : Int))) (R (TV.val (TV.bool true)) h)
              (If (decide ((500 : Int) < ticks)) (R (TV.val (TV.bool true)) h)
                (If (decide (final < (0 : Int))) (R (TV.val (TV.bool true)) h) (If (decide ((600 : Int) < final)) (R (TV.val (TV.bool true)) h) (J false h)))))

theorem tollerlaw09_ClockCounts_calls (window : Int) (ticks : Int) (final : Int) (h : Heap) (R : Value → Heap → Prop) (H : tollerlaw09_ClockCounts_vc window ticks final h R) : CallsH Try.prog 5 (TVs.vals [TV.int IntKind.i64 window, TV.int IntKind.i64 ticks, TV.int IntKind.i64 final]) h R :=
  vcFn_sound (C := ctx) ctx_ok (fn := Try.f5) Try.func5 ((by kernel_rfl : tollerlaw09_ClockCounts_vc window ticks final h R = vcFn ctx Try.f5 [TV.int IntKind.i64 window, TV.int IntKind.i64 ticks, TV.int IntKind.i64 final] h R) ▸ H)


def tollerlaw09_ClockStays_vc (window : Int) (ticks : Int) (more : Int) (final : Int) (slot : Int) (h : Heap) (R : Value → Heap → Prop) : Prop :=
  CallsH Try.prog (13 : Nat) (TVs.vals []) h fun (v : Value) (h : Heap) ↦
    ∃ (b : Bool),
      v = TV.val (TV.bool b) ∧
        If (!b) (R (TV.val (TV.bool false)) h)
          (Join
            (fun (s : Bool) (h : Array Obj) ↦
              CallsH Try.prog (20 : Nat) (TVs.vals [TV.int IntKind.i64 window]) h fun (v : Value) (h : Array Obj) ↦
                ∃ (p : Option Go.Vc.Loc),
                  v = TV.val (TV.ptr p) ∧
                    Go.Vc.Loop (0 : Int) h fun (s : Int) (h : Array Obj) (K : Int → Array Obj → Prop) ↦
                      If (decide (s < ticks))
                        (CallsH Try.prog (15 : Nat) (TVs.vals [TV.ptr p]) h fun (v : Value) (h : Array Obj) ↦
                          ∃ (b : Bool), v = TV.val (TV.bool b) ∧ K (IntKind.wrap IntKind.i64 (s + (1 : Int))) h)
                        (CallsH Try.prog (17 : Nat) (TVs.vals [TV.ptr p, TV.int IntKind.i64 final, TV.int IntKind.i64 slot]) h fun (v : Value) (h : Array Obj) ↦
                          ∃ (b : Bool),
                            v = TV.val (TV.bool b) ∧
                              Go.Vc.Loop (0 : Int) h fun (s : Int) (h : Array Obj) (K : Int → Array Obj → Prop) ↦
                                If (decide (s < more))
                                  (CallsH Try.prog (15 : Nat) (TVs.vals [TV.ptr p]) h fun (v : Value) (h : Array Obj) ↦
                                    ∃ (b : Bool), v = TV.val (TV.bool b) ∧ K (IntKind.wrap IntKind.i64 (s + (1 : Int))) h)
                                  (If (!b)
                                    (CallsH Try.prog (17 : Nat) (TVs.vals [TV.ptr p, TV.int IntKind.i64 slot, TV.int IntKind.i64 slot]) h
                                      fun (v : Value) (h : Array Obj) ↦ ∃ (b : Bool), v = TV.val (TV.bool b) ∧ R (TV.val (TV.bool !b)) h)
                                    (CallsH Try.prog (17 : Nat) (TVs.vals [TV.ptr p, TV.int IntKind.i64 final, TV.int IntKind.i64 slot]) h
                                      fun (v : Value) (h : Array Obj) ↦
                                      ∃ (b : Bool),
                                        v = TV.val (TV.bool b) ∧
                                          If b
                                            (CallsH Try.prog (17 : Nat) (TVs.vals [TV.ptr p, TV.int IntKind.i64 slot, TV.int IntKind.i64 slot]) h
                                              fun (v : Value) (h : Array Obj) ↦ ∃ (b : Bool), v = TV.val (TV.bool b) ∧ R (TV.val (TV.bool !b)) h)
                                            (R (TV.val (TV.bool false)) h)))))
            fun (J : Bool → Array Obj → Prop) ↦
            If (decide (ticks < (0 : Int))) (R (TV.val (TV.bool true)) h)
              (If (decide (more < (0 : Int))) (R (TV.val (TV.bool true)) h)
                (If (decide ((250 : Int) < ticks)) (R (TV.val (TV.bool true)) h) (If (decide ((250 : Int) < more)) (R (TV.val (TV.bool true)) h) (J false h)))))

theorem tollerlaw09_ClockStays_calls (window : Int) (ticks : Int) (more : Int) (final : Int) (slot : Int) (h : Heap) (R : Value → Heap → Prop) (H : tollerlaw09_ClockStays_vc window ticks more final slot h R) : CallsH Try.prog 6 (TVs.vals [TV.int IntKind.i64 window, TV.int IntKind.i64 ticks, TV.int IntKind.i64 more, TV.int IntKind.i64 final, TV.int IntKind.i64 slot]) h R :=
  vcFn_sound (C := ctx) ctx_ok (fn := Try.f6) Try.func6 ((by kernel_rfl : tollerlaw09_ClockStays_vc window ticks more final slot h R = vcFn ctx Try.f6 [TV.int IntKind.i64 window, TV.int IntKind.i64 ticks, TV.int IntKind.i64 more, TV.int IntKind.i64 final, TV.int IntKind.i64 slot] h R) ▸ H)


end Go.Proofs.Ytahoibjgojlpeaa
