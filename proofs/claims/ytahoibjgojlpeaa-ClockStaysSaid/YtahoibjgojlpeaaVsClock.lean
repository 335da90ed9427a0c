/- The conditions of functions, as the generator reckons them out, each with the proof that it is that. -/
import Derived.Test.YtahoibjgojlpeaaCtx
namespace Go.Proofs.Ytahoibjgojlpeaa
open Go Go.Vc
set_option maxRecDepth 100000
set_option linter.unusedVariables false

def tollerlaw09_alive_vc (h : Heap) (R : Value → Heap → Prop) : Prop :=
  CallsH Try.prog (20 : Nat) (TVs.vals [TV.int IntKind.i64 (2 : Int)]) h fun (v : Value) (h : Heap) ↦
    ∃ (p : Option Go.Vc.Loc),
      v = TV.val (TV.ptr p) ∧
        CallsH Try.prog (18 : Nat) (TVs.vals [TV.ptr p, TV.int IntKind.i64 (0 : Int)]) h fun (v : Value) (h : Heap) ↦
          ∃ (b : Bool),
            v = TV.val (TV.bool b) ∧
              If b
                (CallsH Try.prog (18 : Nat) (TVs.vals [TV.ptr p, TV.int IntKind.i64 (1 : Int)]) h fun (v : Value) (h : Heap) ↦
                  ∃ (b : Bool),
                    v = TV.val (TV.bool b) ∧
                      If b
                        (CallsH Try.prog (18 : Nat) (TVs.vals [TV.ptr p, TV.int IntKind.i64 (2 : Int)]) h fun (v : Value) (h : Heap) ↦
                          ∃ (b : Bool),
                            v = TV.val (TV.bool b) ∧
                              If (!b)
                                (CallsH Try.prog (17 : Nat) (TVs.vals [TV.ptr p, TV.int IntKind.i64 (-1 : Int), TV.int IntKind.i64 (1 : Int)]) h
                                  fun (v : Value) (h : Heap) ↦
                                  ∃ (b : Bool),
                                    v = TV.val (TV.bool b) ∧
                                      If (!b)
                                        (CallsH Try.prog (15 : Nat) (TVs.vals [TV.ptr p]) h fun (v : Value) (h : Heap) ↦
                                          ∃ (b : Bool),
                                            v = TV.val (TV.bool b) ∧
                                              If b
                                                (CallsH Try.prog (14 : Nat) (TVs.vals [TV.ptr p]) h fun (v : Value) (h : Heap) ↦
                                                  ∃ (n : Int),
                                                    v = TV.val (TV.int IntKind.i64 n) ∧
                                                      If (decide (n = (1 : Int)))
                                                        (CallsH Try.prog (17 : Nat)
                                                          (TVs.vals [TV.ptr p, TV.int IntKind.i64 (0 : Int), TV.int IntKind.i64 (1 : Int)]) h
                                                          fun (v : Value) (h : Heap) ↦
                                                          ∃ (b : Bool),
                                                            v = TV.val (TV.bool b) ∧
                                                              If b
                                                                (CallsH Try.prog (19 : Nat) (TVs.vals [TV.ptr p, TV.int IntKind.i64 (0 : Int)]) h
                                                                  fun (v : Value) (h : Heap) ↦
                                                                  ∃ (b : Bool),
                                                                    v = TV.val (TV.bool b) ∧
                                                                      If b
                                                                        (CallsH Try.prog (19 : Nat) (TVs.vals [TV.ptr p, TV.int IntKind.i64 (1 : Int)]) h
                                                                          fun (v : Value) (h : Heap) ↦
                                                                          ∃ (b : Bool), v = TV.val (TV.bool b) ∧ R (TV.val (TV.bool !b)) h)
                                                                        (R (TV.val (TV.bool false)) h))
                                                                (R (TV.val (TV.bool false)) h))
                                                        (R (TV.val (TV.bool false)) h))
                                                (R (TV.val (TV.bool false)) h))
                                        (R (TV.val (TV.bool false)) h))
                                (R (TV.val (TV.bool false)) h))
                        (R (TV.val (TV.bool false)) h))
                (R (TV.val (TV.bool false)) h)

theorem tollerlaw09_alive_calls (h : Heap) (R : Value → Heap → Prop) (H : tollerlaw09_alive_vc h R) : CallsH Try.prog 13 (TVs.vals []) h R :=
  vcFn_sound (C := ctx) ctx_ok (fn := Try.f13) Try.func13 ((by kernel_rfl : tollerlaw09_alive_vc h R = vcFn ctx Try.f13 [] h R) ▸ H)


def clock_Clock_Now_vc (c : Option Go.Vc.Loc) (h : Heap) (R : Value → Heap → Prop) : Prop :=
  If (Option.isNone c) (R (TV.val (TV.int IntKind.i64 (0 : Int))) h)
    (Nn c fun (l : Go.Vc.Loc) ↦ ∃ (n : Int), at1 h l.b l.o (Value.int IntKind.i64 n) ∧ R (TV.val (TV.int IntKind.i64 n)) h)

theorem clock_Clock_Now_calls (c : Option Go.Vc.Loc) (h : Heap) (R : Value → Heap → Prop) (H : clock_Clock_Now_vc c h R) : CallsH Try.prog 14 (TVs.vals [TV.ptr c]) h R :=
  vcFn_sound (C := ctx) ctx_ok (fn := Try.f14) Try.func14 ((by kernel_rfl : clock_Clock_Now_vc c h R = vcFn ctx Try.f14 [TV.ptr c] h R) ▸ H)


def clock_Clock_Tick_vc (c : Option Go.Vc.Loc) (h : Heap) (R : Value → Heap → Prop) : Prop :=
  If (Option.isNone c) (R (TV.val (TV.bool false)) h)
    (Nn c fun (l : Go.Vc.Loc) ↦
      ∃ (n : Int),
        at1 h l.b l.o (Value.int IntKind.i64 n) ∧
          If (decide ((1073741824 : Int) ≤ n)) (R (TV.val (TV.bool false)) h)
            (Nn c fun (l : Go.Vc.Loc) ↦
              ∃ (n : Int),
                at1 h l.b l.o (Value.int IntKind.i64 n) ∧
                  Nn c fun (l : Go.Vc.Loc) ↦
                    wok h l.b l.o (1 : Nat) ∧ R (TV.val (TV.bool true)) (TV.put h l.b l.o (TV.int IntKind.i64 (IntKind.wrap IntKind.i64 (n + (1 : Int)))))))

theorem clock_Clock_Tick_calls (c : Option Go.Vc.Loc) (h : Heap) (R : Value → Heap → Prop) (H : clock_Clock_Tick_vc c h R) : CallsH Try.prog 15 (TVs.vals [TV.ptr c]) h R :=
  vcFn_sound (C := ctx) ctx_ok (fn := Try.f15) Try.func15 ((by kernel_rfl : clock_Clock_Tick_vc c h R = vcFn ctx Try.f15 [TV.ptr c] h R) ▸ H)


def clock_Clock_First_vc (c : Option Go.Vc.Loc) (h : Heap) (R : Value → Heap → Prop) : Prop :=
  If (Option.isNone c) (R (TV.val (TV.int IntKind.i64 (0 : Int))) h)
    (Nn c fun (l : Go.Vc.Loc) ↦
      ∃ (n : Int),
        at1 h l.b l.o (Value.int IntKind.i64 n) ∧
          Nn c fun (l : Go.Vc.Loc) ↦
            ∃ (n_1 : Int),
              at1 h l.b (l.o + (1 : Nat)) (Value.int IntKind.i64 n_1) ∧ R (TV.val (TV.int IntKind.i64 (mx (IntKind.wrap IntKind.i64 (n - n_1)) (0 : Int)))) h)

theorem clock_Clock_First_calls (c : Option Go.Vc.Loc) (h : Heap) (R : Value → Heap → Prop) (H : clock_Clock_First_vc c h R) : CallsH Try.prog 16 (TVs.vals [TV.ptr c]) h R :=
  vcFn_sound (C := ctx) ctx_ok (fn := Try.f16) Try.func16 ((by kernel_rfl : clock_Clock_First_vc c h R = vcFn ctx Try.f16 [TV.ptr c] h R) ▸ H)


def clock_Clock_Block_vc (c : Option Go.Vc.Loc) (final : Int) (slot : Int) (h : Heap) (R : Value → Heap → Prop) : Prop :=
  If (!Option.isNone c)
    (If (decide (final < slot)) (Nn c fun (l : Go.Vc.Loc) ↦ ∃ (n : Int), at1 h l.b l.o (Value.int IntKind.i64 n) ∧ R (TV.val (TV.bool (decide (slot ≤ n)))) h)
      (R (TV.val (TV.bool false)) h))
    (R (TV.val (TV.bool false)) h)

theorem clock_Clock_Block_calls (c : Option Go.Vc.Loc) (final : Int) (slot : Int) (h : Heap) (R : Value → Heap → Prop) (H : clock_Clock_Block_vc c final slot h R) : CallsH Try.prog 17 (TVs.vals [TV.ptr c, TV.int IntKind.i64 final, TV.int IntKind.i64 slot]) h R :=
  vcFn_sound (C := ctx) ctx_ok (fn := Try.f17) Try.func17 ((by kernel_rfl : clock_Clock_Block_vc c final slot h R = vcFn ctx Try.f17 [TV.ptr c, TV.int IntKind.i64 final, TV.int IntKind.i64 slot] h R) ▸ H)


def clock_Clock_Vote_vc (c : Option Go.Vc.Loc) (slot : Int) (h : Heap) (R : Value → Heap → Prop) : Prop :=
  If (!Option.isNone c)
    (CallsH Try.prog (16 : Nat) (TVs.vals [TV.ptr c]) h fun (v : Value) (h : Heap) ↦
      ∃ (n : Int),
        v = TV.val (TV.int IntKind.i64 n) ∧
          If (decide (n ≤ slot))
            (Nn c fun (l : Go.Vc.Loc) ↦
              ∃ (n : Int),
                at1 h l.b l.o (Value.int IntKind.i64 n) ∧
                  R (TV.val (TV.bool (decide (slot ≤ mn (IntKind.wrap IntKind.i64 (n + (1 : Int))) (1073741824 : Int))))) h)
            (R (TV.val (TV.bool false)) h))
    (R (TV.val (TV.bool false)) h)

theorem clock_Clock_Vote_calls (c : Option Go.Vc.Loc) (slot : Int) (h : Heap) (R : Value → Heap → Prop) (H : clock_Clock_Vote_vc c slot h R) : CallsH Try.prog 18 (TVs.vals [TV.ptr c, TV.int IntKind.i64 slot]) h R :=
  vcFn_sound (C := ctx) ctx_ok (fn := Try.f18) Try.func18 ((by kernel_rfl : clock_Clock_Vote_vc c slot h R = vcFn ctx Try.f18 [TV.ptr c, TV.int IntKind.i64 slot] h R) ▸ H)


def clock_Clock_Ripe_vc (c : Option Go.Vc.Loc) (slot : Int) (h : Heap) (R : Value → Heap → Prop) : Prop :=
  If (!Option.isNone c) (Nn c fun (l : Go.Vc.Loc) ↦ ∃ (n : Int), at1 h l.b l.o (Value.int IntKind.i64 n) ∧ R (TV.val (TV.bool (decide (slot < n)))) h)
    (R (TV.val (TV.bool false)) h)

theorem clock_Clock_Ripe_calls (c : Option Go.Vc.Loc) (slot : Int) (h : Heap) (R : Value → Heap → Prop) (H : clock_Clock_Ripe_vc c slot h R) : CallsH Try.prog 19 (TVs.vals [TV.ptr c, TV.int IntKind.i64 slot]) h R :=
  vcFn_sound (C := ctx) ctx_ok (fn := Try.f19) Try.func19 ((by kernel_rfl : clock_Clock_Ripe_vc c slot h R = vcFn ctx Try.f19 [TV.ptr c, TV.int IntKind.i64 slot] h R) ▸ H)


def clock_New_vc (window : Int) (h : Heap) (R : Value → Heap → Prop) : Prop :=
  R (TV.val (TV.ptr (some (Loc.mk (Array.size h) (0 : Nat)))))
    (newTV h (TV.agg [TV.int IntKind.i64 (0 : Int), TV.int IntKind.i64 (mn (mx window (1 : Int)) (64 : Int))]) (58 : Nat))

theorem clock_New_calls (window : Int) (h : Heap) (R : Value → Heap → Prop) (H : clock_New_vc window h R) : CallsH Try.prog 20 (TVs.vals [TV.int IntKind.i64 window]) h R :=
  vcFn_sound (C := ctx) ctx_ok (fn := Try.f20) Try.func20 ((by kernel_rfl : clock_New_vc window h R = vcFn ctx Try.f20 [TV.int IntKind.i64 window] h R) ▸ H)


def tollerref09_New_vc (window : Int) (h : Heap) (R : Value → Heap → Prop) : Prop :=
  If (decide (window < (1 : Int)))
    (R (TV.val (TV.ptr (some (Loc.mk (Array.size h) (0 : Nat))))) (newTV h (TV.agg [TV.int IntKind.i64 (0 : Int), TV.int IntKind.i64 (1 : Int)]) (32 : Nat)))
    (If (decide ((64 : Int) < window))
      (R (TV.val (TV.ptr (some (Loc.mk (Array.size h) (0 : Nat))))) (newTV h (TV.agg [TV.int IntKind.i64 (0 : Int), TV.int IntKind.i64 (64 : Int)]) (32 : Nat)))
      (R (TV.val (TV.ptr (some (Loc.mk (Array.size h) (0 : Nat))))) (newTV h (TV.agg [TV.int IntKind.i64 (0 : Int), TV.int IntKind.i64 window]) (32 : Nat))))

theorem tollerref09_New_calls (window : Int) (h : Heap) (R : Value → Heap → Prop) (H : tollerref09_New_vc window h R) : CallsH Try.prog 21 (TVs.vals [TV.int IntKind.i64 window]) h R :=
  vcFn_sound (C := ctx) ctx_ok (fn := Try.f21) Try.func21 ((by kernel_rfl : tollerref09_New_vc window h R = vcFn ctx Try.f21 [TV.int IntKind.i64 window] h R) ▸ H)


def tollerref09_Clock_Tick_vc (c : Option Go.Vc.Loc) (h : Heap) (R : Value → Heap → Prop) : Prop :=
  Nn c fun (l : Go.Vc.Loc) ↦
    ∃ (n : Int),
      at1 h l.b l.o (Value.int IntKind.i64 n) ∧
        If (decide (n = (1073741824 : Int))) (R (TV.val (TV.bool false)) h)
          (Nn c fun (l : Go.Vc.Loc) ↦
            ∃ (n : Int),
              at1 h l.b l.o (Value.int IntKind.i64 n) ∧
                Nn c fun (l : Go.Vc.Loc) ↦
                  wok h l.b l.o (1 : Nat) ∧ R (TV.val (TV.bool true)) (TV.put h l.b l.o (TV.int IntKind.i64 (IntKind.wrap IntKind.i64 (n + (1 : Int))))))

theorem tollerref09_Clock_Tick_calls (c : Option Go.Vc.Loc) (h : Heap) (R : Value → Heap → Prop) (H : tollerref09_Clock_Tick_vc c h R) : CallsH Try.prog 22 (TVs.vals [TV.ptr c]) h R :=
  vcFn_sound (C := ctx) ctx_ok (fn := Try.f22) Try.func22 ((by kernel_rfl : tollerref09_Clock_Tick_vc c h R = vcFn ctx Try.f22 [TV.ptr c] h R) ▸ H)


def tollerref09_Clock_Block_vc (c : Option Go.Vc.Loc) (final : Int) (slot : Int) (h : Heap) (R : Value → Heap → Prop) : Prop :=
  If (decide (final < slot)) (Nn c fun (l : Go.Vc.Loc) ↦ ∃ (n : Int), at1 h l.b l.o (Value.int IntKind.i64 n) ∧ R (TV.val (TV.bool (decide (slot ≤ n)))) h)
    (R (TV.val (TV.bool false)) h)

theorem tollerref09_Clock_Block_calls (c : Option Go.Vc.Loc) (final : Int) (slot : Int) (h : Heap) (R : Value → Heap → Prop) (H : tollerref09_Clock_Block_vc c final slot h R) : CallsH Try.prog 23 (TVs.vals [TV.ptr c, TV.int IntKind.i64 final, TV.int IntKind.i64 slot]) h R :=
  vcFn_sound (C := ctx) ctx_ok (fn := Try.f23) Try.func23 ((by kernel_rfl : tollerref09_Clock_Block_vc c final slot h R = vcFn ctx Try.f23 [TV.ptr c, TV.int IntKind.i64 final, TV.int IntKind.i64 slot] h R) ▸ H)


def tollerref09_Clock_Vote_vc (c : Option Go.Vc.Loc) (slot : Int) (h : Heap) (R : Value → Heap → Prop) : Prop :=
  CallsH Try.prog (26 : Nat) (TVs.vals [TV.ptr c]) h fun (v : Value) (h : Heap) ↦
    ∃ (n : Int),
      v = TV.val (TV.int IntKind.i64 n) ∧
        If (decide (n ≤ slot))
          (Nn c fun (l : Go.Vc.Loc) ↦
            ∃ (n : Int),
              at1 h l.b l.o (Value.int IntKind.i64 n) ∧
                If (decide (IntKind.wrap IntKind.i64 (slot - (1 : Int)) ≤ n)) (R (TV.val (TV.bool (decide (slot ≤ (1073741824 : Int))))) h)
                  (R (TV.val (TV.bool false)) h))
          (R (TV.val (TV.bool false)) h)

theorem tollerref09_Clock_Vote_calls (c : Option Go.Vc.Loc) (slot : Int) (h : Heap) (R : Value → Heap → Prop) (H : tollerref09_Clock_Vote_vc c slot h R) : CallsH Try.prog 24 (TVs.vals [TV.ptr c, TV.int IntKind.i64 slot]) h R :=
  vcFn_sound (C := ctx) ctx_ok (fn := Try.f24) Try.func24 ((by kernel_rfl : tollerref09_Clock_Vote_vc c slot h R = vcFn ctx Try.f24 [TV.ptr c, TV.int IntKind.i64 slot] h R) ▸ H)


def tollerref09_Clock_Ripe_vc (c : Option Go.Vc.Loc) (slot : Int) (h : Heap) (R : Value → Heap → Prop) : Prop :=
  Nn c fun (l : Go.Vc.Loc) ↦ ∃ (n : Int), at1 h l.b l.o (Value.int IntKind.i64 n) ∧ R (TV.val (TV.bool (decide (slot < n)))) h

theorem tollerref09_Clock_Ripe_calls (c : Option Go.Vc.Loc) (slot : Int) (h : Heap) (R : Value → Heap → Prop) (H : tollerref09_Clock_Ripe_vc c slot h R) : CallsH Try.prog 25 (TVs.vals [TV.ptr c, TV.int IntKind.i64 slot]) h R :=
  vcFn_sound (C := ctx) ctx_ok (fn := Try.f25) Try.func25 ((by kernel_rfl : tollerref09_Clock_Ripe_vc c slot h R = vcFn ctx Try.f25 [TV.ptr c, TV.int IntKind.i64 slot] h R) ▸ H)


def tollerref09_Clock_First_vc (c : Option Go.Vc.Loc) (h : Heap) (R : Value → Heap → Prop) : Prop :=
  Nn c fun (l : Go.Vc.Loc) ↦
    ∃ (n : Int),
      at1 h l.b l.o (Value.int IntKind.i64 n) ∧
        Nn c fun (l : Go.Vc.Loc) ↦
          ∃ (n_1 : Int),
            at1 h l.b (l.o + (1 : Nat)) (Value.int IntKind.i64 n_1) ∧
              If (decide (n < n_1)) (R (TV.val (TV.int IntKind.i64 (0 : Int))) h)
                (Nn c fun (l : Go.Vc.Loc) ↦
                  ∃ (n : Int),
                    at1 h l.b l.o (Value.int IntKind.i64 n) ∧
                      Nn c fun (l : Go.Vc.Loc) ↦
                        ∃ (n_2 : Int),
                          at1 h l.b (l.o + (1 : Nat)) (Value.int IntKind.i64 n_2) ∧ R (TV.val (TV.int IntKind.i64 (IntKind.wrap IntKind.i64 (n - n_2)))) h)

theorem tollerref09_Clock_First_calls (c : Option Go.Vc.Loc) (h : Heap) (R : Value → Heap → Prop) (H : tollerref09_Clock_First_vc c h R) : CallsH Try.prog 26 (TVs.vals [TV.ptr c]) h R :=
  vcFn_sound (C := ctx) ctx_ok (fn := Try.f26) Try.func26 ((by kernel_rfl : tollerref09_Clock_First_vc c h R = vcFn ctx Try.f26 [TV.ptr c] h R) ▸ H)


end Go.Proofs.Ytahoibjgojlpeaa
