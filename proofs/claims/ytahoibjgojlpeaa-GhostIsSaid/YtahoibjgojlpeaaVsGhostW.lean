/- The conditions of functions, as the generator reckons them out, each with the proof that it is that. -/
import Derived.Test.YtahoibjgojlpeaaCtx
namespace Go.Proofs.Ytahoibjgojlpeaa
open Go Go.Vc
set_option maxRecDepth 100000
set_option linter.unusedVariables false

def tollerlaw20_GhostIs_vc (parents : Sl) (targets : Sl) (stakes : Sl) (odd : Bs (32 : Nat)) (h : Heap) (R : Value → Heap → Prop) : Prop :=
  CallsH Try.prog (27 : Nat) (TVs.vals []) (newTV h (TV.bytes (32 : Nat) odd) (37 : Nat)) fun (v : Value) (h_1 : Heap) ↦
    ∃ (b : Bool),
      v = TV.val (TV.bool b) ∧
        If (!b) (R (TV.val (TV.bool false)) h_1)
          (CallsH Try.prog (28 : Nat) (TVs.vals [TV.slice parents, TV.slice targets, TV.slice stakes]) h_1 fun (v : Value) (h_2 : Heap) ↦
            ∃ (b : Bool),
              v = TV.val (TV.bool b) ∧
                If b (R (TV.val (TV.bool true)) h_2)
                  (CallsH Try.prog (29 : Nat) (TVs.vals [TV.slice parents, TV.slice targets, TV.slice stakes]) h_2 fun (v : Value) (h_3 : Heap) ↦
                    ∃ (s : Sl),
                      ∃ (s_1 : Sl),
                        ∃ (s_2 : Sl),
                          ∃ (s_3 : Sl),
                            v = TV.val (TV.agg [TV.slice s, TV.slice s_1, TV.slice s_2, TV.slice s_3]) ∧
                              wok (newTV h_3 (TV.agg [TV.slice Sl.nil, TV.slice Sl.nil, TV.slice Sl.nil, TV.slice Sl.nil]) (41 : Nat)) (Array.size h_3) (0 : Nat)
                                  (Nat.succ (Nat.add (1 : Nat) (Nat.add (1 : Nat) (1 : Nat)))) ∧
                                ∃ (s_4 : Sl),
                                  ∃ (s_5 : Sl),
                                    ∃ (s_6 : Sl),
                                      ∃ (s_7 : Sl),
                                        (at1
                                              (TV.put (newTV h_3 (TV.agg [TV.slice Sl.nil, TV.slice Sl.nil, TV.slice Sl.nil, TV.slice Sl.nil]) (41 : Nat))
                                                (Array.size h_3) (0 : Nat) (TV.agg [TV.slice s, TV.slice s_1, TV.slice s_2, TV.slice s_3]))
                                              (Array.size h_3) (0 : Nat) (slVal s_4) ∧
                                            at1
                                                (TV.put (newTV h_3 (TV.agg [TV.slice Sl.nil, TV.slice Sl.nil, TV.slice Sl.nil, TV.slice Sl.nil]) (41 : Nat))
                                                  (Array.size h_3) (0 : Nat) (TV.agg [TV.slice s, TV.slice s_1, TV.slice s_2, TV.slice s_3]))
                                                (Array.size h_3) (1 : Nat) (slVal s_5) ∧
                                              at1
                                                  (TV.put (newTV h_3 (TV.agg [TV.slice Sl.nil, TV.slice Sl.nil, TV.slice Sl.nil, TV.slice Sl.nil]) (41 : Nat))
                                                    (Array.size h_3) (0 : Nat) (TV.agg [TV.slice s, TV.slice s_1, TV.slice s_2, TV.slice s_3]))
                                                  (Array.size h_3) (2 : Nat) (slVal s_6) ∧
                                                at1
                                                  (TV.put (newTV h_3 (TV.agg [TV.slice Sl.nil, TV.slice Sl.nil, TV.slice Sl.nil, TV.slice Sl.nil]) (41 : Nat))
                                                    (Array.size h_3) (0 : Nat) (TV.agg [TV.slice s, TV.slice s_1, TV.slice s_2, TV.slice s_3]))
                                                  (Array.size h_3) (3 : Nat) (slVal s_7)) ∧
                                          CallsH Try.prog (30 : Nat) (TVs.vals [TV.agg [TV.slice s_4, TV.slice s_5, TV.slice s_6, TV.slice s_7]])
                                            (TV.put (newTV h_3 (TV.agg [TV.slice Sl.nil, TV.slice Sl.nil, TV.slice Sl.nil, TV.slice Sl.nil]) (41 : Nat))
                                              (Array.size h_3) (0 : Nat) (TV.agg [TV.slice s, TV.slice s_1, TV.slice s_2, TV.slice s_3]))
                                            fun (v : Value) (h_4 : Heap) ↦
                                            ∃ (b : Bool),
                                              v = TV.val (TV.bool b) ∧
                                                If (!b) (R (TV.val (TV.bool true)) h_4)
                                                  (∃ (s : Sl),
                                                    ∃ (s_8 : Sl),
                                                      ∃ (s_9 : Sl),
                                                        ∃ (s_10 : Sl),
                                                          (at1 h_4 (Array.size h_3) (0 : Nat) (slVal s) ∧
                                                              at1 h_4 (Array.size h_3) (1 : Nat) (slVal s_8) ∧
                                                                at1 h_4 (Array.size h_3) (2 : Nat) (slVal s_9) ∧
                                                                  at1 h_4 (Array.size h_3) (3 : Nat) (slVal s_10)) ∧
                                                            CallsH Try.prog (31 : Nat) (TVs.vals [TV.agg [TV.slice s, TV.slice s_8, TV.slice s_9, TV.slice s_10]])
                                                              h_4 fun (v : Value) (h_5 : Heap) ↦
                                                              ∃ (s : Sl),
                                                                ∃ (s_11 : Sl),
                                                                  v = TV.val (TV.agg [TV.slice s, TV.slice s_11]) ∧
                                                                    wok (newTV h_5 (TV.agg [TV.slice Sl.nil, TV.slice Sl.nil]) (46 : Nat)) (Array.size h_5)
                                                                        (0 : Nat) (Nat.succ (Nat.add (1 : Nat) (0 : Nat))) ∧
                                                                      ∃ (s_12 : Sl),
                                                                        ∃ (s_13 : Sl),
                                                                          ∃ (s_14 : Sl),
                                                                            ∃ (s_15 : Sl),
                                                                              (at1
                                                                                    (TV.put (newTV h_5 (TV.agg [TV.slice Sl.nil, TV.slice Sl.nil]) (46 : Nat))
                                                                                      (Array.size h_5) (0 : Nat) (TV.agg [TV.slice s, TV.slice s_11]))
                                                                                    (Array.size h_3) (0 : Nat) (slVal s_12) ∧
                                                                                  at1
                                                                                      (TV.put (newTV h_5 (TV.agg [TV.slice Sl.nil, TV.slice Sl.nil]) (46 : Nat))
                                                                                        (Array.size h_5) (0 : Nat) (TV.agg [TV.slice s, TV.slice s_11]))
                                                                                      (Array.size h_3) (1 : Nat) (slVal s_13) ∧
                                                                                    at1
                                                                                        (TV.put (newTV h_5 (TV.agg [TV.slice Sl.nil, TV.slice Sl.nil]) (46 : Nat))
                                                                                          (Array.size h_5) (0 : Nat) (TV.agg [TV.slice s, TV.slice s_11]))
                                                                                        (Array.size h_3) (2 : Nat) (slVal s_14) ∧
                                                                                      at1
                                                                                        (TV.put (newTV h_5 (TV.agg [TV.slice Sl.nil, TV.slice Sl.nil]) (46 : Nat))
                                                                                          (Array.size h_5) (0 : Nat) (TV.agg [TV.slice s, TV.slice s_11]))
                                                                                        (Array.size h_3) (3 : Nat) (slVal s_15)) ∧
                                                                                CallsH Try.prog (32 : Nat)
                                                                                  (TVs.vals [TV.agg [TV.slice s_12, TV.slice s_13, TV.slice s_14, TV.slice s_15]])
                                                                                  (TV.put (newTV h_5 (TV.agg [TV.slice Sl.nil, TV.slice Sl.nil]) (46 : Nat))
                                                                                    (Array.size h_5) (0 : Nat) (TV.agg [TV.slice s, TV.slice s_11]))
                                                                                  fun (v : Value) (h_6 : Heap) ↦
                                                                                  ∃ (s : Sl),
                                                                                    v = TV.val (TV.slice s) ∧
                                                                                      ∃ (s_16 : Sl),
                                                                                        at1 h_6 (Array.size h_3) (0 : Nat) (slVal s_16) ∧
                                                                                          Go.Vc.Loop (false, (0 : Int)) h_6
                                                                                            fun (s_17 : Bool × Int) (h_7 : Array Obj)
                                                                                              (K : Bool × Int → Array Obj → Prop) ↦
                                                                                            If (decide (s_17.snd < (↑s_16.len : Int)))
                                                                                              ((0 : Int) ≤ s_17.snd ∧
                                                                                                s_17.snd < (↑s_16.len : Int) ∧
                                                                                                  Nn s_16.a fun (l : Go.Vc.Loc) ↦
                                                                                                    ∃ (b : Bs (32 : Nat)),
                                                                                                      atBytes h_7 l.b (l.o + Int.toNat s_17.snd * (32 : Nat))
                                                                                                          (32 : Nat) b ∧
                                                                                                        wok
                                                                                                            (newTV h_7 (TV.bytes (32 : Nat) (Bs.zero (32 : Nat)))
                                                                                                              (37 : Nat))
                                                                                                            (Array.size h_7) (0 : Nat) (32 : Nat) ∧
                                                                                                          ∃ (s_18 : Sl),
                                                                                                            ∃ (s_19 : Sl),
                                                                                                              (at1
                                                                                                                    (TV.put
                                                                                                                      (newTV h_7
                                                                                                                        (TV.bytes (32 : Nat) (Bs.zero (32 : Nat)))
                                                                                                                        (37 : Nat))
                                                                                                                      (Array.size h_7) (0 : Nat)
                                                                                                                      (TV.bytes (32 : Nat) b))
                                                                                                                    (Array.size h_5) (0 : Nat) (slVal s_18) ∧
                                                                                                                  at1
                                                                                                                    (TV.put
                                                                                                                      (newTV h_7
                                                                                                                        (TV.bytes (32 : Nat) (Bs.zero (32 : Nat)))
                                                                                                                        (37 : Nat))
                                                                                                                      (Array.size h_7) (0 : Nat)
                                                                                                                      (TV.bytes (32 : Nat) b))
                                                                                                                    (Array.size h_5) (1 : Nat) (slVal s_19)) ∧
                                                                                                                ∃ (b_1 : Bs (32 : Nat)),
                                                                                                                  atBytes
                                                                                                                      (TV.put
                                                                                                                        (newTV h_7
                                                                                                                          (TV.bytes (32 : Nat)
                                                                                                                            (Bs.zero (32 : Nat)))
                                                                                                                          (37 : Nat))
                                                                                                                        (Array.size h_7) (0 : Nat)
                                                                                                                        (TV.bytes (32 : Nat) b))
                                                                                                                      (Array.size h_7) (0 : Nat) (32 : Nat) b_1 ∧
                                                                                                                    (0 : Int) ≤ s_17.snd ∧
                                                                                                                      s_17.snd < (↑s.len : Int) ∧
                                                                                                                        Nn s.a fun (l : Go.Vc.Loc) ↦
                                                                                                                          ∃ (n : Int),
                                                                                                                            at1
                                                                                                                                (TV.put
                                                                                                                                  (newTV h_7
                                                                                                                                    (TV.bytes (32 : Nat)
                                                                                                                                      (Bs.zero (32 : Nat)))
                                                                                                                                    (37 : Nat))
                                                                                                                                  (Array.size h_7) (0 : Nat)
                                                                                                                                  (TV.bytes (32 : Nat) b))
                                                                                                                                l.b
                                                                                                                                (l.o +
                                                                                                                                  Int.toNat s_17.snd * (1 : Nat))
                                                                                                                                (Value.int IntKind.i64 n) ∧
                                                                                                                              CallsH Try.prog (33 : Nat)
                                                                                                                                (TVs.vals
                                                                                                                                  [TV.agg
                                                                                                                                      [TV.slice s_18,
                                                                                                                                        TV.slice s_19],
                                                                                                                                    TV.bytes (32 : Nat) b_1])
                                                                                                                                (TV.put
                                                                                                                                  (newTV h_7
                                                                                                                                    (TV.bytes (32 : Nat)
                                                                                                                                      (Bs.zero (32 : Nat)))
                                                                                                                                    (37 : Nat))
                                                                                                                                  (Array.size h_7) (0 : Nat)
                                                                                                                                  (TV.bytes (32 : Nat) b))
                                                                                                                                fun (v : Value) (h : Heap) ↦
                                                                                                                                ∃ (n_1 : Int),
                                                                                                                                  v =
                                                                                                                                      TV.val
                                                                                                                                        (TV.int IntKind.i64 n_1) ∧
                                                                                                                                    Ext
                                                                                                                                        (TV.put
                                                                                                                                          (newTV h_7
                                                                                                                                            (TV.bytes (32 : Nat)
                                                                                                                                              (Bs.zero
                                                                                                                                                (32 : Nat)))
                                                                                                                                            (37 : Nat))
                                                                                                                                          (Array.size h_7)
                                                                                                                                          (0 : Nat)
                                                                                                                                          (TV.bytes (32 : Nat) b))
                                                                                                                                        h ∧
                                                                                                                                      If (!decide (n_1 = n))
                                                                                                                                        (R
                                                                                                                                          (TV.val (TV.bool false))
                                                                                                                                          h)
                                                                                                                                        (K
                                                                                                                                          (s_17.fst,
                                                                                                                                            IntKind.wrap
                                                                                                                                              IntKind.i64
                                                                                                                                              (s_17.snd +
                                                                                                                                                (1 : Int)))
                                                                                                                                          h))
                                                                                              (∃ (s : Sl),
                                                                                                at1 h_7 (Array.size h_5) (1 : Nat) (slVal s) ∧
                                                                                                  wok
                                                                                                      (newTV h_7 (TV.agg [TV.slice Sl.nil, TV.slice Sl.nil])
                                                                                                        (46 : Nat))
                                                                                                      (Array.size h_7) (0 : Nat) (2 : Nat) ∧
                                                                                                    ∃ (s_18 : Sl),
                                                                                                      ∃ (s_19 : Sl),
                                                                                                        (at1
                                                                                                              (TV.put
                                                                                                                (newTV h_7
                                                                                                                  (TV.agg [TV.slice Sl.nil, TV.slice Sl.nil])
                                                                                                                  (46 : Nat))
                                                                                                                (Array.size h_7) (0 : Nat)
                                                                                                                (TV.agg [TV.slice Sl.nil, TV.slice s]))
                                                                                                              (Array.size h_5) (0 : Nat) (slVal s_18) ∧
                                                                                                            at1
                                                                                                              (TV.put
                                                                                                                (newTV h_7
                                                                                                                  (TV.agg [TV.slice Sl.nil, TV.slice Sl.nil])
                                                                                                                  (46 : Nat))
                                                                                                                (Array.size h_7) (0 : Nat)
                                                                                                                (TV.agg [TV.slice Sl.nil, TV.slice s]))
                                                                                                              (Array.size h_5) (1 : Nat) (slVal s_19)) ∧
                                                                                                          ∃ (s_20 : Sl),
                                                                                                            ∃ (s_21 : Sl),
                                                                                                              ∃ (s_22 : Sl),
                                                                                                                ∃ (s_23 : Sl),
                                                                                                                  (at1
                                                                                                                        (TV.put
                                                                                                                          (newTV h_7
                                                                                                                            (TV.agg
                                                                                                                              [TV.slice Sl.nil, TV.slice Sl.nil])
                                                                                                                            (46 : Nat))
                                                                                                                          (Array.size h_7) (0 : Nat)
                                                                                                                          (TV.agg [TV.slice Sl.nil, TV.slice s]))
                                                                                                                        (Array.size h_3) (0 : Nat) (slVal s_20) ∧
                                                                                                                      at1
                                                                                                                          (TV.put
                                                                                                                            (newTV h_7
                                                                                                                              (TV.agg
                                                                                                                                [TV.slice Sl.nil,
                                                                                                                                  TV.slice Sl.nil])
                                                                                                                              (46 : Nat))
                                                                                                                            (Array.size h_7) (0 : Nat)
                                                                                                                            (TV.agg
                                                                                                                              [TV.slice Sl.nil, TV.slice s]))
                                                                                                                          (Array.size h_3) (1 : Nat)
                                                                                                                          (slVal s_21) ∧
                                                                                                                        at1
                                                                                                                            (TV.put
                                                                                                                              (newTV h_7
                                                                                                                                (TV.agg
                                                                                                                                  [TV.slice Sl.nil,
                                                                                                                                    TV.slice Sl.nil])
                                                                                                                                (46 : Nat))
                                                                                                                              (Array.size h_7) (0 : Nat)
                                                                                                                              (TV.agg
                                                                                                                                [TV.slice Sl.nil, TV.slice s]))
                                                                                                                            (Array.size h_3) (2 : Nat)
                                                                                                                            (slVal s_22) ∧
                                                                                                                          at1
                                                                                                                            (TV.put
                                                                                                                              (newTV h_7
                                                                                                                                (TV.agg
                                                                                                                                  [TV.slice Sl.nil,
                                                                                                                                    TV.slice Sl.nil])
                                                                                                                                (46 : Nat))
                                                                                                                              (Array.size h_7) (0 : Nat)
                                                                                                                              (TV.agg
                                                                                                                                [TV.slice Sl.nil, TV.slice s]))
                                                                                                                            (Array.size h_3) (3 : Nat)
                                                                                                                            (slVal s_23)) ∧
                                                                                                                    CallsH Try.prog (34 : Nat)
                                                                                                                      (TVs.vals
                                                                                                                        [TV.agg [TV.slice s_18, TV.slice s_19]])
                                                                                                                      (TV.put
                                                                                                                        (newTV h_7
                                                                                                                          (TV.agg
                                                                                                                            [TV.slice Sl.nil, TV.slice Sl.nil])
                                                                                                                          (46 : Nat))
                                                                                                                        (Array.size h_7) (0 : Nat)
                                                                                                                        (TV.agg [TV.slice Sl.nil, TV.slice s]))
                                                                                                                      fun (v : Value) (h_8 : Heap) ↦
                                                                                                                      ∃ (b : Bs (32 : Nat)),
                                                                                                                        v = TV.val (TV.bytes (32 : Nat) b) ∧
                                                                                                                          Ext
                                                                                                                              (TV.put
                                                                                                                                (newTV h_7
                                                                                                                                  (TV.agg
                                                                                                                                    [TV.slice Sl.nil,
                                                                                                                                      TV.slice Sl.nil])
                                                                                                                                  (46 : Nat))
                                                                                                                                (Array.size h_7) (0 : Nat)
                                                                                                                                (TV.agg
                                                                                                                                  [TV.slice Sl.nil, TV.slice s]))
                                                                                                                              h_8 ∧
                                                                                                                            CallsH Try.prog (35 : Nat)
                                                                                                                              (TVs.vals
                                                                                                                                [TV.agg
                                                                                                                                    [TV.slice s_20, TV.slice s_21,
                                                                                                                                      TV.slice s_22,
                                                                                                                                      TV.slice s_23]])
                                                                                                                              h_8 fun (v : Value) (h_9 : Heap) ↦
                                                                                                                              ∃ (b_1 : Bs (32 : Nat)),
                                                                                                                                v =
                                                                                                                                    TV.val
                                                                                                                                      (TV.bytes (32 : Nat) b_1) ∧
                                                                                                                                  If (decide (b.1 = b_1.1))
                                                                                                                                    (∃ (s : Sl),
                                                                                                                                      ∃ (s_24 : Sl),
                                                                                                                                        ∃ (s_25 : Sl),
                                                                                                                                          ∃ (s_26 : Sl),
                                                                                                                                            (at1 h_9
                                                                                                                                                  (Array.size h_3)
                                                                                                                                                  (0 : Nat)
                                                                                                                                                  (slVal s) ∧
                                                                                                                                                at1 h_9
                                                                                                                                                    (Array.size
                                                                                                                                                      h_3)
                                                                                                                                                    (1 : Nat)
                                                                                                                                                    (slVal s_24) ∧
                                                                                                                                                  at1 h_9
                                                                                                                                                      (Array.size
                                                                                                                                                        h_3)
                                                                                                                                                      (2 : Nat)
                                                                                                                                                      (slVal
                                                                                                                                                        s_25) ∧
                                                                                                                                                    at1 h_9
                                                                                                                                                      (Array.size
                                                                                                                                                        h_3)
                                                                                                                                                      (3 : Nat)
                                                                                                                                                      (slVal
                                                                                                                                                        s_26)) ∧
                                                                                                                                              ∃ (b :
                                                                                                                                                Bs (32 : Nat)),
                                                                                                                                                atBytes h_9
                                                                                                                                                    (Array.size h)
                                                                                                                                                    (0 : Nat)
                                                                                                                                                    (32 : Nat) b ∧
                                                                                                                                                  CallsH Try.prog
                                                                                                                                                    (36 : Nat)
                                                                                                                                                    (TVs.vals
                                                                                                                                                      [TV.agg
                                                                                                                                                          [TV.slice
                                                                                                                                                              s,
                                                                                                                                                            TV.slice
                                                                                                                                                              s_24,
                                                                                                                                                            TV.slice
                                                                                                                                                              s_25,
                                                                                                                                                            TV.slice
                                                                                                                                                              s_26],
                                                                                                                                                        TV.bytes
                                                                                                                                                          (32 :
                                                                                                                                                            Nat)
                                                                                                                                                          b])
                                                                                                                                                    h_9
                                                                                                                                                    fun
                                                                                                                                                      (v : Value)
                                                                                                                                                      (h_10 :
                                                                                                                                                        Heap) ↦
                                                                                                                                                    ∃ (n : Int),
                                                                                                                                                      v =
                                                                                                                                                          TV.val
                                                                                                                                                            (TV.int
                                                                                                                                                              IntKind.i64
                                                                                                                                                              n) ∧
                                                                                                                                                        If
                                                                                                                                                          (decide
                                                                                                                                                            ((0 :
                                                                                                                                                                Int) ≤
                                                                                                                                                              n))
                                                                                                                                                          (∃ (s :
                                                                                                                                                            Sl),
                                                                                                                                                            ∃
                                                                                                                                                              (s_27
                                                                                                                                                              :
                                                                                                                                                              Sl),
                                                                                                                                                              (at1
                                                                                                                                                                    h_10
                                                                                                                                                                    (Array.size
                                                                                                                                                                      h_7)
                                                                                                                                                                    (0 :
                                                                                                                                                                      Nat)
                                                                                                                                                                    (slVal
                                                                                                                                                                      s) ∧
                                                                                                                                                                  at1
                                                                                                                                                                    h_10
                                                                                                                                                                    (Array.size
                                                                                                                                                                      h_7)
                                                                                                                                                                    (1 :
                                                                                                                                                                      Nat)
                                                                                                                                                                    (slVal
                                                                                                                                                                      s_27)) ∧
                                                                                                                                                                CallsH
                                                                                                                                                                  Try.prog
                                                                                                                                                                  (34 :
                                                                                                                                                                    Nat)
                                                                                                                                                                  (TVs.vals
                                                                                                                                                                    [TV.agg
                                                                                                                                                                        [TV.slice
                                                                                                                                                                            s,
                                                                                                                                                                          TV.slice
                                                                                                                                                                            s_27]])
                                                                                                                                                                  h_10
                                                                                                                                                                  fun
                                                                                                                                                                    (v :
                                                                                                                                                                      Value)
                                                                                                                                                                    (h_11 :
                                                                                                                                                                      Heap) ↦
                                                                                                                                                                  ∃
                                                                                                                                                                    (b
                                                                                                                                                                    :
                                                                                                                                                                    Bs
                                                                                                                                                                      (32 :
                                                                                                                                                                        Nat)),
                                                                                                                                                                    v =
                                                                                                                                                                        TV.val
                                                                                                                                                                          (TV.bytes
                                                                                                                                                                            (32 :
                                                                                                                                                                              Nat)
                                                                                                                                                                            b) ∧
                                                                                                                                                                      Ext
                                                                                                                                                                          h_10
                                                                                                                                                                          h_11 ∧
                                                                                                                                                                        If
                                                                                                                                                                          (decide
                                                                                                                                                                            (b.1 =
                                                                                                                                                                              (0 :
                                                                                                                                                                                  UInt8) ::
                                                                                                                                                                                List.replicate
                                                                                                                                                                                  (31 :
                                                                                                                                                                                    Nat)
                                                                                                                                                                                  (0 :
                                                                                                                                                                                    UInt8)))
                                                                                                                                                                          (∃
                                                                                                                                                                            (s
                                                                                                                                                                            :
                                                                                                                                                                            Sl),
                                                                                                                                                                            ∃
                                                                                                                                                                              (s_28
                                                                                                                                                                              :
                                                                                                                                                                              Sl),
                                                                                                                                                                              (at1
                                                                                                                                                                                    h_11
                                                                                                                                                                                    (Array.size
                                                                                                                                                                                      h_7)
                                                                                                                                                                                    (0 :
                                                                                                                                                                                      Nat)
                                                                                                                                                                                    (slVal
                                                                                                                                                                                      s) ∧
                                                                                                                                                                                  at1
                                                                                                                                                                                    h_11
                                                                                                                                                                                    (Array.size
                                                                                                                                                                                      h_7)
                                                                                                                                                                                    (1 :
                                                                                                                                                                                      Nat)
                                                                                                                                                                                    (slVal
                                                                                                                                                                                      s_28)) ∧
                                                                                                                                                                                ∃
                                                                                                                                                                                  (b
                                                                                                                                                                                  :
                                                                                                                                                                                  Bs
                                                                                                                                                                                    (32 :
                                                                                                                                                                                      Nat)),
                                                                                                                                                                                  atBytes
                                                                                                                                                                                      h_11
                                                                                                                                                                                      (Array.size
                                                                                                                                                                                        h)
                                                                                                                                                                                      (0 :
                                                                                                                                                                                        Nat)
                                                                                                                                                                                      (32 :
                                                                                                                                                                                        Nat)
                                                                                                                                                                                      b ∧
                                                                                                                                                                                    CallsH
                                                                                                                                                                                      Try.prog
                                                                                                                                                                                      (33 :
                                                                                                                                                                                        Nat)
                                                                                                                                                                                      (TVs.vals
                                                                                                                                                                                        [TV.agg
                                                                                                                                                                                            [TV.slice
                                                                                                                                                                                                s,
                                                                                                                                                                                              TV.slice
                                                                                                                                                                                                s_28],
                                                                                                                                                                                          TV.bytes
                                                                                                                                                                                            (32 :
                                                                                                                                                                                              Nat)
                                                                                                                                                                                            b])
                                                                                                                                                                                      h_11
                                                                                                                                                                                      fun
                                                                                                                                                                                        (v :
                                                                                                                                                                                          Value)
                                                                                                                                                                                        (h :
                                                                                                                                                                                          Heap) ↦
                                                                                                                                                                                      ∃
                                                                                                                                                                                        (n
                                                                                                                                                                                        :
                                                                                                                                                                                        Int),
                                                                                                                                                                                        v =
                                                                                                                                                                                            TV.val
                                                                                                                                                                                              (TV.int
                                                                                                                                                                                                IntKind.i64
                                                                                                                                                                                                n) ∧
                                                                                                                                                                                          R
                                                                                                                                                                                            (TV.val
                                                                                                                                                                                              (TV.bool
                                                                                                                                                                                                (decide
                                                                                                                                                                                                  (n =
                                                                                                                                                                                                    (0 :
                                                                                                                                                                                                      Int)))))
                                                                                                                                                                                            h)
                                                                                                                                                                          (R
                                                                                                                                                                            (TV.val
                                                                                                                                                                              (TV.bool
                                                                                                                                                                                false))
                                                                                                                                                                            h_11))
                                                                                                                                                          (∃ (s :
                                                                                                                                                            Sl),
                                                                                                                                                            ∃
                                                                                                                                                              (s_27
                                                                                                                                                              :
                                                                                                                                                              Sl),
                                                                                                                                                              (at1
                                                                                                                                                                    h_10
                                                                                                                                                                    (Array.size
                                                                                                                                                                      h_5)
                                                                                                                                                                    (0 :
                                                                                                                                                                      Nat)
                                                                                                                                                                    (slVal
                                                                                                                                                                      s) ∧
                                                                                                                                                                  at1
                                                                                                                                                                    h_10
                                                                                                                                                                    (Array.size
                                                                                                                                                                      h_5)
                                                                                                                                                                    (1 :
                                                                                                                                                                      Nat)
                                                                                                                                                                    (slVal
                                                                                                                                                                      s_27)) ∧
                                                                                                                                                                ∃
                                                                                                                                                                  (b
                                                                                                                                                                  :
                                                                                                                                                                  Bs
                                                                                                                                                                    (32 :
                                                                                                                                                                      Nat)),
                                                                                                                                                                  atBytes
                                                                                                                                                                      h_10
                                                                                                                                                                      (Array.size
                                                                                                                                                                        h)
                                                                                                                                                                      (0 :
                                                                                                                                                                        Nat)
                                                                                                                                                                      (32 :
                                                                                                                                                                        Nat)
                                                                                                                                                                      b ∧
                                                                                                                                                                    CallsH
                                                                                                                                                                      Try.prog
                                                                                                                                                                      (33 :
                                                                                                                                                                        Nat)
                                                                                                                                                                      (TVs.vals
                                                                                                                                                                        [TV.agg
                                                                                                                                                                            [TV.slice
                                                                                                                                                                                s,
                                                                                                                                                                              TV.slice
                                                                                                                                                                                s_27],
                                                                                                                                                                          TV.bytes
                                                                                                                                                                            (32 :
                                                                                                                                                                              Nat)
                                                                                                                                                                            b])
                                                                                                                                                                      h_10
                                                                                                                                                                      fun
                                                                                                                                                                        (v :
                                                                                                                                                                          Value)
                                                                                                                                                                        (h_11 :
                                                                                                                                                                          Heap) ↦
                                                                                                                                                                      ∃
                                                                                                                                                                        (n
                                                                                                                                                                        :
                                                                                                                                                                        Int),
                                                                                                                                                                        v =
                                                                                                                                                                            TV.val
                                                                                                                                                                              (TV.int
                                                                                                                                                                                IntKind.i64
                                                                                                                                                                                n) ∧
                                                                                                                                                                          If
                                                                                                                                                                            (decide
                                                                                                                                                                              (n =
                                                                                                                                                                                (0 :
                                                                                                                                                                                  Int)))
                                                                                                                                                                            (∃
                                                                                                                                                                              (s
                                                                                                                                                                              :
                                                                                                                                                                              Sl),
                                                                                                                                                                              ∃
                                                                                                                                                                                (s_28
                                                                                                                                                                                :
                                                                                                                                                                                Sl),
                                                                                                                                                                                (at1
                                                                                                                                                                                      h_11
                                                                                                                                                                                      (Array.size
                                                                                                                                                                                        h_7)
                                                                                                                                                                                      (0 :
                                                                                                                                                                                        Nat)
                                                                                                                                                                                      (slVal
                                                                                                                                                                                        s) ∧
                                                                                                                                                                                    at1
                                                                                                                                                                                      h_11
                                                                                                                                                                                      (Array.size
                                                                                                                                                                                        h_7)
                                                                                                                                                                                      (1 :
                                                                                                                                                                                        Nat)
                                                                                                                                                                                      (slVal
                                                                                                                                                                                        s_28)) ∧
                                                                                                                                                                                  CallsH
                                                                                                                                                                                    Try.prog
                                                                                                                                                                                    (34 :
                                                                                                                                                                                      Nat)
                                                                                                                                                                                    (TVs.vals
                                                                                                                                                                                      [TV.agg
                                                                                                                                                                                          [TV.slice
                                                                                                                                                                                              s,
                                                                                                                                                                                            TV.slice
                                                                                                                                                                                              s_28]])
                                                                                                                                                                                    h_11
                                                                                                                                                                                    fun
                                                                                                                                                                                      (v :
                                                                                                                                                                                        Value)
                                                                                                                                                                                      (h_12 :
                                                                                                                                                                                        Heap) ↦
                                                                                                                                                                                    ∃
                                                                                                                                                                                      (b
                                                                                                                                                                                      :
                                                                                                                                                                                      Bs
                                                                                                                                                                                        (32 :
                                                                                                                                                                                          Nat)),
                                                                                                                                                                                      v =
                                                                                                                                                                                          TV.val
                                                                                                                                                                                            (TV.bytes
                                                                                                                                                                                              (32 :
                                                                                                                                                                                                Nat)
                                                                                                                                                                                              b) ∧
                                                                                                                                                                                        Ext
                                                                                                                                                                                            h_11
                                                                                                                                                                                            h_12 ∧
                                                                                                                                                                                          If
                                                                                                                                                                                            (decide
                                                                                                                                                                                              (b.1 =
                                                                                                                                                                                                (0 :
                                                                                                                                                                                                    UInt8) ::
                                                                                                                                                                                                  List.replicate
                                                                                                                                                                                                    (31 :
                                                                                                                                                                                                      Nat)
                                                                                                                                                                                                    (0 :
                                                                                                                                                                                                      UInt8)))
                                                                                                                                                                                            (∃
                                                                                                                                                                                              (s
                                                                                                                                                                                              :
                                                                                                                                                                                              Sl),
                                                                                                                                                                                              ∃
                                                                                                                                                                                                (s_29
                                                                                                                                                                                                :
                                                                                                                                                                                                Sl),
                                                                                                                                                                                                (at1
                                                                                                                                                                                                      h_12
                                                                                                                                                                                                      (Array.size
                                                                                                                                                                                                        h_7)
                                                                                                                                                                                                      (0 :
                                                                                                                                                                                                        Nat)
                                                                                                                                                                                                      (slVal
                                                                                                                                                                                                        s) ∧
                                                                                                                                                                                                    at1
                                                                                                                                                                                                      h_12
                                                                                                                                                                                                      (Array.size
                                                                                                                                                                                                        h_7)
                                                                                                                                                                                                      (1 :
                                                                                                                                                                                                        Nat)
                                                                                                                                                                                                      (slVal
                                                                                                                                                                                                        s_29)) ∧
                                                                                                                                                                                                  ∃
                                                                                                                                                                                                    (b
                                                                                                                                                                                                    :
                                                                                                                                                                                                    Bs
                                                                                                                                                                                                      (32 :
                                                                                                                                                                                                        Nat)),
                                                                                                                                                                                                    atBytes
                                                                                                                                                                                                        h_12
                                                                                                                                                                                                        (Array.size
                                                                                                                                                                                                          h)
                                                                                                                                                                                                        (0 :
                                                                                                                                                                                                          Nat)
                                                                                                                                                                                                        (32 :
                                                                                                                                                                                                          Nat)
                                                                                                                                                                                                        b ∧
                                                                                                                                                                                                      CallsH
                                                                                                                                                                                                        Try.prog
                                                                                                                                                                                                        (33 :
                                                                                                                                                                                                          Nat)
                                                                                                                                                                                                        (TVs.vals
                                                                                                                                                                                                          [TV.agg
                                                                                                                                                                                                              [TV.slice
                                                                                                                                                                                                                  s,
                                                                                                                                                                                                                TV.slice
                                                                                                                                                                                                                  s_29],
                                                                                                                                                                                                            TV.bytes
                                                                                                                                                                                                              (32 :
                                                                                                                                                                                                                Nat)
                                                                                                                                                                                                              b])
                                                                                                                                                                                                        h_12
                                                                                                                                                                                                        fun
                                                                                                                                                                                                          (v :
                                                                                                                                                                                                            Value)
                                                                                                                                                                                                          (h :
                                                                                                                                                                                                            Heap) ↦
                                                                                                                                                                                                        ∃
                                                                                                                                                                                                          (n
                                                                                                                                                                                                          :
                                                                                                                                                                                                          Int),
                                                                                                                                                                                                          v =
                                                                                                                                                                                                              TV.val
                                                                                                                                                                                                                (TV.int
                                                                                                                                                                                                                  IntKind.i64
                                                                                                                                                                                                                  n) ∧
                                                                                                                                                                                                            R
                                                                                                                                                                                                              (TV.val
                                                                                                                                                                                                                (TV.bool
                                                                                                                                                                                                                  (decide
                                                                                                                                                                                                                    (n =
                                                                                                                                                                                                                      (0 :
                                                                                                                                                                                                                        Int)))))
                                                                                                                                                                                                              h)
                                                                                                                                                                                            (R
                                                                                                                                                                                              (TV.val
                                                                                                                                                                                                (TV.bool
                                                                                                                                                                                                  false))
                                                                                                                                                                                              h_12))
                                                                                                                                                                            (R
                                                                                                                                                                              (TV.val
                                                                                                                                                                                (TV.bool
                                                                                                                                                                                  false))
                                                                                                                                                                              h_11)))
                                                                                                                                    (R (TV.val (TV.bool false))
                                                                                                                                      h_9)))))

theorem tollerlaw20_GhostIs_calls (parents : Sl) (targets : Sl) (stakes : Sl) (odd : Bs (32 : Nat)) (h : Heap) (R : Value → Heap → Prop) (H : tollerlaw20_GhostIs_vc parents targets stakes odd h R) : CallsH Try.prog 7 (TVs.vals [TV.slice parents, TV.slice targets, TV.slice stakes, TV.bytes (32 : Nat) odd]) h R :=
  vcFn_sound (C := ctx) ctx_ok (fn := Try.f7) Try.func7 ((by kernel_rfl : tollerlaw20_GhostIs_vc parents targets stakes odd h R = vcFn ctx Try.f7 [TV.slice parents, TV.slice targets, TV.slice stakes, TV.bytes (32 : Nat) odd] h R) ▸ H)


end Go.Proofs.Ytahoibjgojlpeaa
