/- Functions of the arena seat. Conditions: none. -/
import Derived.Test.YthefjfcphgiggaaArL
set_option linter.unusedVariables false
set_option linter.unusedSimpArgs false
namespace Go.Proofs.RL
def ac_arena_valid : AC := (.seq (.region [.op (some 2) none false (.box (.t 0)),
    .op (some 4) none false (.mv (.c (.bool false))),
    .gh (.keep [1, 2])]) <|
  (.seq (.block 0 <|
    (.seq (.region [.op (some 6) none false (.fieldAddr 0 (.t 2)),
      .op (some 7) none false (.load false 1 (.t 6)),
      .call (some 8) none (.c (.func 17)) [(.t 7), (.c (.int .i64 0)), (.c (.int .i64 1099511627776))],
      .op (some 9) none false (.not (.t 8)),
      .op (some 5) none false (.mv (.t 9)),
      .gh (.keep [1, 2, 5])]) <|
    (.cond (.t 5)
      (.seq (.region [.op (some 4) none false (.mv (.c (.bool false)))]) <|
      .ret)
      (.seq (.region [.op (some 11) none false (.fieldAddr 1 (.t 2)),
        .op (some 12) none false (.load false 1 (.t 11)),
        .op (some 13) none false (.bin .eql (.t 12) (.c (.int .i64 0))),
        .op (some 10) none false (.mv (.t 13)),
        .gh (.keep [1, 2, 10])]) <|
      (.cond (.t 10)
        (.seq (.region [.op (some 14) none false (.load true 4 (.t 2)),
          .op (some 15) none false (.fieldAddr 0 (.t 2)),
          .op (some 16) none false (.load false 1 (.t 15)),
          .op (some 17) none false (.build [(.int .i64 0), (.int .i64 0), (.int .i64 0), (.int .i64 0)] [(0, 1, (.t 16))]),
          .op (some 18) none false (.eqAgg false [0, 0, 0, 0] (.t 14) (.t 17)),
          .op (some 4) none false (.mv (.t 18)),
          .gh (.keep [4])]) <|
        .ret)
        .skip))))) <|
  (.seq (.region [.op (some 19) none false (.fieldAddr 1 (.t 2)),
    .op (some 20) none false (.load false 1 (.t 19)),
    .call (some 21) none (.c (.func 17)) [(.t 20), (.c (.int .i64 1)), (.c (.int .i64 3))],
    .op (some 22) none false (.mv (.t 21)),
    .op (some 23) (some (22, true)) false (.fieldAddr 2 (.t 2)),
    .op (some 24) (some (22, true)) false (.load false 1 (.t 23)),
    .call (some 25) (some (22, true)) (.c (.func 17)) [(.t 24), (.c (.int .i64 0)), (.c (.int .i64 1152921504606846976))],
    .op (some 26) none false (.pick (.t 22) (.t 25) (.c (.bool false))),
    .op (some 27) none false (.mv (.t 26)),
    .op (some 28) (some (27, true)) false (.fieldAddr 3 (.t 2)),
    .op (some 29) (some (27, true)) false (.load false 1 (.t 28)),
    .op (some 30) (some (27, true)) false (.mv (.t 1)),
    .op (some 31) (some (27, true)) false (.bin .sub (.t 30) (.c (.int .i64 1))),
    .call (some 32) (some (27, true)) (.c (.func 17)) [(.t 29), (.c (.int .i64 0)), (.t 31)],
    .op (some 33) none false (.pick (.t 27) (.t 32) (.c (.bool false))),
    .op (some 4) none false (.mv (.t 33)),
    .gh (.keep [4])]) <|
  .ret)))
theorem tr_arena_valid : trCode Try.prog Try.f26.ntmps (Try.f26.body.getD .skip) = some ac_arena_valid.erase := by kernel_rfl
theorem fn_arena_valid : Try.prog.funcs[26]? = some Try.f26 := by kernel_rfl
theorem bd_arena_valid : Try.f26.body = some (Try.f26.body.getD .skip) := by kernel_rfl
theorem rs_arena_valid : Try.f26.results.toList.mapM (trRes Try.prog) = some [.tmp 4] := by kernel_rfl
theorem go_arena_valid {Y : YT} {kb : Nat} {args : List AV} {ob : Ob} {K : AV → Ob → Prop} (ks : Option (List Nat)) (hl : args.length ≤ 34) (h : AP Try.prog Y kb ac_arena_valid (endK [.tmp 4] ks K) (mkTm 0 args) ob) : FnA Try.prog Y 26 args ob K :=
  FnA_of_awp hm fn_arena_valid (by kernel_rfl) bd_arena_valid tr_arena_valid rs_arena_valid ks hl h.out
def ac_arena_Valid : AC := (.seq (.region [.op (some 1) none false (.box (.t 0)),
    .op (some 2) none false (.mv (.c (.bool false))),
    .gh (.keep [1])]) <|
  (.seq (.seq (.region [.op (some 7) none false (.fieldAddr 0 (.t 1)),
    .op (some 8) none false (.load false 1 (.t 7)),
    .op (some 9) none false (.len false (.t 8)),
    .call (some 10) none (.c (.func 17)) [(.t 9), (.c (.int .i64 1)), (.c (.int .i64 64))],
    .op (some 11) none false (.not (.t 10)),
    .op (some 12) none false (.mv (.t 11)),
    .op (some 13) (some (12, false)) false (.fieldAddr 2 (.t 1)),
    .op (some 14) (some (12, false)) false (.load false 1 (.t 13)),
    .call (some 15) (some (12, false)) (.c (.func 17)) [(.t 14), (.c (.int .i64 0)), (.c (.int .i64 1099511627776))],
    .op (some 16) (some (12, false)) false (.not (.t 15)),
    .op (some 17) none false (.pick (.t 12) (.c (.bool true)) (.t 16)),
    .gh (.keep [1, 17])]) <|
  (.cond (.t 17)
    (.seq (.region [.op (some 2) none false (.mv (.c (.bool false)))]) <|
    .ret)
    .skip)) <|
  (.seq (.region [.op (some 3) none false (.mv (.c (.sl (some true) (some 0) [])))]) <|
  (.seq (.region [.op (some 18) none false (.mkMap),
    .op (some 4) none false (.mv (.t 18)),
    .gh (.keep [1, 3, 4])]) <|
  (.seq (.seq (.region [.op (some 19) none false (.fieldAddr 0 (.t 1)),
    .op (some 20) none false (.load false 1 (.t 19)),
    .op (some 21) none false (.len false (.t 20)),
    .op (some 22) none false (.mv (.c (.int .i64 0))),
    .gh (.keep [1, 3, 4, 20, 21, 22])]) <|
  (.block 0 <|
    (.gh (.keep [1, 3, 4, 20, 21, 22]) (.loop <|
      (.seq (.region [.op (some 23) none false (.bin .lss (.t 22) (.t 21))]) <|
      (.seq (.cond (.t 23)
        .skip
        (.exit 0)) <|
      (.seq (.block 1 <|
        (.seq (.region [.op (some 24) none false (.mv (.t 22)),
          .op (some 25) none false (.idxA 4 (.t 20) (.t 22)),
          .op (some 26) none false (.load true 4 (.t 25)),
          .op (some 6) none false (.alloc [(.int .i64 0), (.int .i64 0), (.int .i64 0), (.int .i64 0)]),
          .op (some 5) none false (.mv (.t 24)),
          .op none none false (.store 4 (.t 6) (.t 26)),
          .gh (.keep [1, 3, 4, 5, 6, 20, 21, 22])]) <|
        (.seq (.seq (.region [.op (some 27) none false (.load true 4 (.t 6)),
          .op (some 28) none false (.fieldAddr 2 (.t 1)),
          .op (some 29) none false (.load false 1 (.t 28)),
          .call (some 30) none (.c (.func 26)) [(.t 27), (.t 29)],
          .op (some 31) none false (.not (.t 30)),
          .op (some 32) none false (.mv (.t 31)),
          .op (some 33) (some (32, false)) false (.fieldAddr 1 (.t 6)),
          .op (some 34) (some (32, false)) false (.load false 1 (.t 33)),
          .op (some 35) (some (32, false)) false (.bin .neq (.t 34) (.c (.int .i64 0))),
          .op (some 36) (some (32, false)) false (.mv (.t 35)),
          .op (some 37) (some (36, true)) false (.mv (.t 4)),
          .op (some 38) (some (36, true)) false (.fieldAddr 3 (.t 6)),
          .op (some 39) (some (36, true)) false (.load false 1 (.t 38)),
          .op (some 40) (some (36, true)) false (.never),
          .op (some 41) (some (32, false)) false (.pick (.t 36) (.t 40) (.c (.bool false))),
          .op (some 42) none false (.pick (.t 32) (.c (.bool true)) (.t 41)),
          .gh (.keep [1, 3, 4, 5, 6, 20, 21, 22, 42])]) <|
        (.cond (.t 42)
          (.seq (.region [.op (some 2) none false (.mv (.c (.bool false)))]) <|
          .ret)
          .skip)) <|
        (.seq (.region [.op (some 43) none false (.fieldAddr 1 (.t 6)),
          .op (some 44) none false (.load false 1 (.t 43)),
          .op (some 45) none false (.bin .eql (.t 44) (.c (.int .i64 0))),
          .gh (.keep [1, 3, 4, 5, 6, 20, 21, 22, 45])]) <|
        (.cond (.t 45)
          (.region [.op (some 46) none false (.mv (.t 3)),
            .op (some 47) none false (.mv (.t 5)),
            .op (some 48) none false (.buildSl 1 1 [(.int .i64 0)] [(0, (.t 47))]),
            .op (some 49) none false (.append 1 8 (.t 46) (.t 48)),
            .op (some 3) none false (.mv (.t 49)),
            .gh (.keep [1, 3, 4, 20, 21, 22])])
          (.region [.op (some 50) none false (.mv (.t 4)),
            .op (some 51) none false (.fieldAddr 3 (.t 6)),
            .op (some 52) none false (.load false 1 (.t 51)),
            .op none none false (.never),
            .gh (.keep [1, 3, 4, 20, 21, 22])])))))) <|
      (.region [.op (some 53) none false (.bin .add (.t 22) (.c (.int .i64 1))),
        .op (some 22) none false (.mv (.t 53)),
        .gh (.keep [1, 3, 4, 20, 21, 22])])))))))) <|
  (.seq (.region [.op (some 54) none false (.mv (.t 3)),
    .op (some 55) none false (.fieldAddr 1 (.t 1)),
    .op (some 56) none false (.load false 1 (.t 55)),
    .call (some 57) none (.c (.func 29)) [(.t 56)],
    .call (some 58) none (.c (.func 28)) [(.t 57)],
    .call (some 59) none (.c (.func 27)) [(.t 54), (.t 58)],
    .op (some 2) none false (.mv (.t 59)),
    .gh (.keep [2])]) <|
  .ret))))))
theorem tr_arena_Valid : trCode Try.prog Try.f14.ntmps (Try.f14.body.getD .skip) = some ac_arena_Valid.erase := by kernel_rfl
theorem fn_arena_Valid : Try.prog.funcs[14]? = some Try.f14 := by kernel_rfl
theorem bd_arena_Valid : Try.f14.body = some (Try.f14.body.getD .skip) := by kernel_rfl
theorem rs_arena_Valid : Try.f14.results.toList.mapM (trRes Try.prog) = some [.tmp 2] := by kernel_rfl
theorem go_arena_Valid {Y : YT} {kb : Nat} {args : List AV} {ob : Ob} {K : AV → Ob → Prop} (ks : Option (List Nat)) (hl : args.length ≤ 60) (h : AP Try.prog Y kb ac_arena_Valid (endK [.tmp 2] ks K) (mkTm 0 args) ob) : FnA Try.prog Y 14 args ob K :=
  FnA_of_awp hm fn_arena_Valid (by kernel_rfl) bd_arena_Valid tr_arena_Valid rs_arena_Valid ks hl h.out
def ac_slices_Values_int_int : AC := (.seq (.region [.op (some 1) none false (.box (.t 0)),
    .op (some 2) none false (.mv (.c .nilf)),
    .gh (.keep [1])]) <|
  (.seq (.region [.op (some 3) none false (.mkFunc 38 [] [(.t 1)]),
    .op (some 2) none false (.mv (.t 3)),
    .gh (.keep [2])]) <|
  .ret))
theorem tr_slices_Values_int_int : trCode Try.prog Try.f29.ntmps (Try.f29.body.getD .skip) = some ac_slices_Values_int_int.erase := by kernel_rfl
theorem fn_slices_Values_int_int : Try.prog.funcs[29]? = some Try.f29 := by kernel_rfl
theorem bd_slices_Values_int_int : Try.f29.body = some (Try.f29.body.getD .skip) := by kernel_rfl
theorem rs_slices_Values_int_int : Try.f29.results.toList.mapM (trRes Try.prog) = some [.tmp 2] := by kernel_rfl
theorem go_slices_Values_int_int {Y : YT} {kb : Nat} {args : List AV} {ob : Ob} {K : AV → Ob → Prop} (ks : Option (List Nat)) (hl : args.length ≤ 4) (h : AP Try.prog Y kb ac_slices_Values_int_int (endK [.tmp 2] ks K) (mkTm 0 args) ob) : FnA Try.prog Y 29 args ob K :=
  FnA_of_awp hm fn_slices_Values_int_int (by kernel_rfl) bd_slices_Values_int_int tr_slices_Values_int_int rs_slices_Values_int_int ks hl h.out
def ac_slices_Values_int_int_1 : AC := (.seq (.region [.op (some 5) none false (.load false 1 (.t 1)),
    .op (some 6) none false (.len false (.t 5)),
    .op (some 7) none false (.mv (.c (.int .i64 0))),
    .gh (.keep [0, 5, 6, 7])]) <|
  (.block 0 <|
    (.gh (.keep [0, 5, 6, 7]) (.loop <|
      (.seq (.region [.op (some 8) none false (.bin .lss (.t 7) (.t 6))]) <|
      (.seq (.cond (.t 8)
        .skip
        (.exit 0)) <|
      (.seq (.block 1 <|
        (.seq (.region [.op (some 9) none false (.idxA 1 (.t 5) (.t 7)),
          .op (some 10) none false (.load false 1 (.t 9)),
          .op (some 4) none false (.mv (.t 10)),
          .gh (.keep [0, 4, 5, 6, 7])]) <|
        (.seq (.region [.op (some 11) none false (.mv (.t 0)),
          .op (some 12) none false (.mv (.t 4)),
          .call (some 13) none (.t 11) [(.t 12)],
          .op (some 14) none false (.not (.t 13)),
          .gh (.keep [0, 5, 6, 7, 14])]) <|
        (.cond (.t 14)
          .ret
          .skip)))) <|
      (.region [.op (some 15) none false (.bin .add (.t 7) (.c (.int .i64 1))),
        .op (some 7) none false (.mv (.t 15)),
        .gh (.keep [0, 5, 6, 7])]))))))))
theorem tr_slices_Values_int_int_1 : trCode Try.prog Try.f38.ntmps (Try.f38.body.getD .skip) = some ac_slices_Values_int_int_1.erase := by kernel_rfl
theorem fn_slices_Values_int_int_1 : Try.prog.funcs[38]? = some Try.f38 := by kernel_rfl
theorem bd_slices_Values_int_int_1 : Try.f38.body = some (Try.f38.body.getD .skip) := by kernel_rfl
theorem rs_slices_Values_int_int_1 : Try.f38.results.toList.mapM (trRes Try.prog) = some [] := by kernel_rfl
theorem go_slices_Values_int_int_1 {Y : YT} {kb : Nat} {args : List AV} {ob : Ob} {K : AV → Ob → Prop} (ks : Option (List Nat)) (hl : args.length ≤ 16) (h : AP Try.prog Y kb ac_slices_Values_int_int_1 (endK [] ks K) (mkTm 0 args) ob) : FnA Try.prog Y 38 args ob K :=
  FnA_of_awp hm fn_slices_Values_int_int_1 (by kernel_rfl) bd_slices_Values_int_int_1 tr_slices_Values_int_int_1 rs_slices_Values_int_int_1 ks hl h.out
def ac_slices_Sorted_int : AC := (.seq (.region [.op (some 2) none false (.mv (.c (.sl (some true) (some 0) [])))]) <|
  (.seq (.region [.op (some 4) none false (.mv (.t 0)),
    .call (some 5) none (.c (.func 36)) [(.t 4)],
    .op (some 3) none false (.mv (.t 5)),
    .gh (.keep [3])]) <|
  (.seq (.region [.op (some 6) none false (.mv (.t 3)),
    .call (some 7) none (.c (.func 37)) [(.t 6)],
    .gh (.keep [3])]) <|
  (.seq (.region [.op (some 8) none false (.mv (.t 3)),
    .op (some 2) none false (.mv (.t 8)),
    .gh (.keep [2])]) <|
  .ret))))
theorem tr_slices_Sorted_int : trCode Try.prog Try.f28.ntmps (Try.f28.body.getD .skip) = some ac_slices_Sorted_int.erase := by kernel_rfl
theorem fn_slices_Sorted_int : Try.prog.funcs[28]? = some Try.f28 := by kernel_rfl
theorem bd_slices_Sorted_int : Try.f28.body = some (Try.f28.body.getD .skip) := by kernel_rfl
theorem rs_slices_Sorted_int : Try.f28.results.toList.mapM (trRes Try.prog) = some [.tmp 2] := by kernel_rfl
theorem go_slices_Sorted_int {Y : YT} {kb : Nat} {args : List AV} {ob : Ob} {K : AV → Ob → Prop} (ks : Option (List Nat)) (hl : args.length ≤ 9) (h : AP Try.prog Y kb ac_slices_Sorted_int (endK [.tmp 2] ks K) (mkTm 0 args) ob) : FnA Try.prog Y 28 args ob K :=
  FnA_of_awp hm fn_slices_Sorted_int (by kernel_rfl) bd_slices_Sorted_int tr_slices_Sorted_int rs_slices_Sorted_int ks hl h.out
def ac_slices_Collect_int : AC := (.seq (.region [.op (some 2) none false (.mv (.c (.sl (some true) (some 0) [])))]) <|
  (.seq (.region [.op (some 3) none false (.mv (.t 0)),
    .call (some 4) none (.c (.func 45)) [(.c (.sl (some true) (some 0) [])), (.t 3)],
    .op (some 2) none false (.mv (.t 4)),
    .gh (.keep [2])]) <|
  .ret))
theorem tr_slices_Collect_int : trCode Try.prog Try.f36.ntmps (Try.f36.body.getD .skip) = some ac_slices_Collect_int.erase := by kernel_rfl
theorem fn_slices_Collect_int : Try.prog.funcs[36]? = some Try.f36 := by kernel_rfl
theorem bd_slices_Collect_int : Try.f36.body = some (Try.f36.body.getD .skip) := by kernel_rfl
theorem rs_slices_Collect_int : Try.f36.results.toList.mapM (trRes Try.prog) = some [.tmp 2] := by kernel_rfl
theorem go_slices_Collect_int {Y : YT} {kb : Nat} {args : List AV} {ob : Ob} {K : AV → Ob → Prop} (ks : Option (List Nat)) (hl : args.length ≤ 5) (h : AP Try.prog Y kb ac_slices_Collect_int (endK [.tmp 2] ks K) (mkTm 0 args) ob) : FnA Try.prog Y 36 args ob K :=
  FnA_of_awp hm fn_slices_Collect_int (by kernel_rfl) bd_slices_Collect_int tr_slices_Collect_int rs_slices_Collect_int ks hl h.out
def ac_slices_AppendSeq_int_int : AC := (.seq (.region [.op (some 2) none false (.box (.t 0)),
    .op (some 4) none false (.mv (.c (.sl (some true) (some 0) []))),
    .gh (.keep [1, 2, 4, 7])]) <|
  (.seq (.seq (.region [.op (some 6) none false (.mv (.t 1))]) <|
  (.block 0 <|
    (.rangeF 0 (.t 6) [7]
      (.region [.op (some 5) none false (.mv (.t 7))])
      (.block 1 <|
        (.region [.op (some 8) none false (.load false 1 (.t 2)),
          .op (some 9) none false (.mv (.t 5)),
          .op (some 10) none false (.buildSl 1 1 [(.int .i64 0)] [(0, (.t 9))]),
          .op (some 11) none false (.append 1 8 (.t 8) (.t 10)),
          .op none none false (.store 1 (.t 2) (.t 11)),
          .gh (.keep [])]))))) <|
  (.seq (.region [.op (some 12) none false (.load false 1 (.t 2)),
    .op (some 4) none false (.mv (.t 12)),
    .gh (.keep [4])]) <|
  .ret)))
theorem tr_slices_AppendSeq_int_int : trCode Try.prog Try.f45.ntmps (Try.f45.body.getD .skip) = some ac_slices_AppendSeq_int_int.erase := by kernel_rfl
theorem fn_slices_AppendSeq_int_int : Try.prog.funcs[45]? = some Try.f45 := by kernel_rfl
theorem bd_slices_AppendSeq_int_int : Try.f45.body = some (Try.f45.body.getD .skip) := by kernel_rfl
theorem rs_slices_AppendSeq_int_int : Try.f45.results.toList.mapM (trRes Try.prog) = some [.tmp 4] := by kernel_rfl
theorem go_slices_AppendSeq_int_int {Y : YT} {kb : Nat} {args : List AV} {ob : Ob} {K : AV → Ob → Prop} (ks : Option (List Nat)) (hl : args.length ≤ 13) (h : AP Try.prog Y kb ac_slices_AppendSeq_int_int (endK [.tmp 4] ks K) (mkTm 0 args) ob) : FnA Try.prog Y 45 args ob K :=
  FnA_of_awp hm fn_slices_AppendSeq_int_int (by kernel_rfl) bd_slices_AppendSeq_int_int tr_slices_AppendSeq_int_int rs_slices_AppendSeq_int_int ks hl h.out
def ac_slices_Sort_int_int : AC := (.seq (.region [.op (some 3) none false (.mv (.t 0)),
    .op (some 4) none false (.len false (.t 3)),
    .op (some 2) none false (.mv (.t 4)),
    .gh (.keep [0, 2])]) <|
  (.region [.op (some 5) none false (.mv (.t 0)),
    .op (some 6) none false (.mv (.t 2)),
    .op (some 7) none false (.mv (.t 2)),
    .op (some 8) none false (.conv .u64 (.t 7)),
    .call (some 9) none (.c (.func 47)) [(.t 8)],
    .call (some 10) none (.c (.func 46)) [(.t 5), (.c (.int .i64 0)), (.t 6), (.t 9)],
    .gh (.keep [])]))
theorem tr_slices_Sort_int_int : trCode Try.prog Try.f37.ntmps (Try.f37.body.getD .skip) = some ac_slices_Sort_int_int.erase := by kernel_rfl
theorem fn_slices_Sort_int_int : Try.prog.funcs[37]? = some Try.f37 := by kernel_rfl
theorem bd_slices_Sort_int_int : Try.f37.body = some (Try.f37.body.getD .skip) := by kernel_rfl
theorem rs_slices_Sort_int_int : Try.f37.results.toList.mapM (trRes Try.prog) = some [] := by kernel_rfl
theorem go_slices_Sort_int_int {Y : YT} {kb : Nat} {args : List AV} {ob : Ob} {K : AV → Ob → Prop} (ks : Option (List Nat)) (hl : args.length ≤ 11) (h : AP Try.prog Y kb ac_slices_Sort_int_int (endK [] ks K) (mkTm 0 args) ob) : FnA Try.prog Y 37 args ob K :=
  FnA_of_awp hm fn_slices_Sort_int_int (by kernel_rfl) bd_slices_Sort_int_int tr_slices_Sort_int_int rs_slices_Sort_int_int ks hl h.out
def ac_slices_pdqsortOrdered_int : AC := (.seq (.region [.op (some 8) none false (.mv (.c (.bool true)))]) <|
  (.seq (.region [.op (some 9) none false (.mv (.c (.bool true)))]) <|
  (.block 0 <|
    (.gh (.keep [0, 1, 2, 3, 8, 9]) (.loop <|
      (.block 1 <|
        (.seq (.region [.op (some 19) none false (.mv (.t 2)),
          .op (some 20) none false (.mv (.t 1)),
          .op (some 21) none false (.bin .sub (.t 19) (.t 20)),
          .op (some 10) none false (.mv (.t 21)),
          .gh (.keep [0, 1, 2, 3, 8, 9, 10])]) <|
        (.seq (.seq (.region [.op (some 22) none false (.mv (.t 10)),
          .op (some 23) none false (.bin .leq (.t 22) (.c (.int .i64 12))),
          .gh (.keep [0, 1, 2, 3, 8, 9, 10, 23])]) <|
        (.cond (.t 23)
          (.seq (.region [.op (some 24) none false (.mv (.t 0)),
            .op (some 25) none false (.mv (.t 1)),
            .op (some 26) none false (.mv (.t 2)),
            .call (some 27) none (.c (.func 51)) [(.t 24), (.t 25), (.t 26)],
            .gh (.keep [])]) <|
          .ret)
          .skip)) <|
        (.seq (.seq (.region [.op (some 28) none false (.mv (.t 3)),
          .op (some 29) none false (.bin .eql (.t 28) (.c (.int .i64 0))),
          .gh (.keep [0, 1, 2, 3, 8, 9, 10, 29])]) <|
        (.cond (.t 29)
          (.seq (.region [.op (some 30) none false (.mv (.t 0)),
            .op (some 31) none false (.mv (.t 1)),
            .op (some 32) none false (.mv (.t 2)),
            .call (some 33) none (.c (.func 52)) [(.t 30), (.t 31), (.t 32)],
            .gh (.keep [])]) <|
          .ret)
          .skip)) <|
        (.seq (.seq (.region [.op (some 34) none false (.mv (.t 8)),
          .op (some 35) none false (.not (.t 34)),
          .gh (.keep [0, 1, 2, 3, 8, 9, 10, 35])]) <|
        (.cond (.t 35)
          (.seq (.region [.op (some 36) none false (.mv (.t 0)),
            .op (some 37) none false (.mv (.t 1)),
            .op (some 38) none false (.mv (.t 2)),
            .call (some 39) none (.c (.func 53)) [(.t 36), (.t 37), (.t 38)],
            .gh (.keep [0, 1, 2, 3, 8, 9, 10])]) <|
          (.region [.op (some 40) none false (.mv (.t 3)),
            .op (some 41) none false (.bin .sub (.t 40) (.c (.int .i64 1))),
            .op (some 3) none false (.mv (.t 41)),
            .gh (.keep [0, 1, 2, 3, 8, 9, 10])]))
          .skip)) <|
        (.seq (.region [.op (some 43) none false (.mv (.t 0)),
          .op (some 44) none false (.mv (.t 1)),
          .op (some 45) none false (.mv (.t 2)),
          .call (some 46) none (.c (.func 54)) [(.t 43), (.t 44), (.t 45)],
          .op (some 42) none false (.mv (.t 46)),
          .op (some 47) none false (.extract (.t 42) 0),
          .op (some 48) none false (.extract (.t 42) 1),
          .op (some 11) none false (.mv (.t 47)),
          .op (some 12) none false (.mv (.t 48)),
          .gh (.keep [0, 1, 2, 3, 8, 9, 10, 11, 12])]) <|
        (.seq (.seq (.region [.op (some 49) none false (.mv (.t 12)),
          .op (some 50) none false (.bin .eql (.t 49) (.c (.int .i64 2))),
          .gh (.keep [0, 1, 2, 3, 8, 9, 10, 11, 12, 50])]) <|
        (.cond (.t 50)
          (.seq (.region [.op (some 51) none false (.mv (.t 0)),
            .op (some 52) none false (.mv (.t 1)),
            .op (some 53) none false (.mv (.t 2)),
            .call (some 54) none (.c (.func 55)) [(.t 51), (.t 52), (.t 53)],
            .gh (.keep [0, 1, 2, 3, 8, 9, 10, 11])]) <|
          (.seq (.region [.op (some 55) none false (.mv (.t 2)),
            .op (some 56) none false (.bin .sub (.t 55) (.c (.int .i64 1))),
            .op (some 57) none false (.mv (.t 11)),
            .op (some 58) none false (.mv (.t 1)),
            .op (some 59) none false (.bin .sub (.t 57) (.t 58)),
            .op (some 60) none false (.bin .sub (.t 56) (.t 59)),
            .op (some 11) none false (.mv (.t 60)),
            .gh (.keep [0, 1, 2, 3, 8, 9, 10, 11])]) <|
          (.region [.op (some 12) none false (.mv (.c (.int .i64 1)))])))
          .skip)) <|
        (.seq (.seq (.region [.op (some 61) none false (.mv (.t 8)),
          .op (some 62) none false (.mv (.t 61)),
          .op (some 63) (some (62, true)) false (.mv (.t 9)),
          .op (some 64) none false (.pick (.t 62) (.t 63) (.c (.bool false))),
          .op (some 65) none false (.mv (.t 64)),
          .op (some 66) (some (65, true)) false (.mv (.t 12)),
          .op (some 67) (some (65, true)) false (.bin .eql (.t 66) (.c (.int .i64 1))),
          .op (some 68) none false (.pick (.t 65) (.t 67) (.c (.bool false))),
          .gh (.keep [0, 1, 2, 3, 8, 9, 10, 11, 68])]) <|
        (.cond (.t 68)
          (.seq (.region [.op (some 69) none false (.mv (.t 0)),
            .op (some 70) none false (.mv (.t 1)),
            .op (some 71) none false (.mv (.t 2)),
            .call (some 72) none (.c (.func 56)) [(.t 69), (.t 70), (.t 71)],
            .gh (.keep [0, 1, 2, 3, 8, 9, 10, 11, 72])]) <|
          (.cond (.t 72)
            .ret
            .skip))
          .skip)) <|
        (.seq (.seq (.draw <|
          .fst (.op (some 73) none false (.mv (.t 1))) <|
          .fst (.op (some 74) none false (.bin .gtr (.t 73) (.c (.int .i64 0)))) <|
          .fst (.op (some 75) none false (.mv (.t 74))) <|
          .fst (.op (some 76) (some (75, true)) false (.mv (.t 0))) <|
          .fst (.op (some 77) (some (75, true)) false (.mv (.t 1))) <|
          .fst (.op (some 78) (some (75, true)) false (.bin .sub (.t 77) (.c (.int .i64 1)))) <|
          .fst (.op (some 79) (some (75, true)) false (.idxA 1 (.t 76) (.t 78))) <|
          .fst (.op (some 80) (some (75, true)) false (.load false 1 (.t 79))) <|
          .fst (.op (some 81) (some (75, true)) false (.mv (.t 0))) <|
          .fst (.op (some 82) (some (75, true)) false (.mv (.t 11))) <|
          .fst (.op (some 83) (some (75, true)) false (.idxA 1 (.t 81) (.t 82))) <|
          .fst (.op (some 84) (some (75, true)) false (.load false 1 (.t 83))) <|
          .main1 [] (.call (some 85) (some (75, true)) (.c (.func 57)) [(.t 80), (.t 84)]) <|
          .fst (.op (some 86) (some (75, true)) false (.not (.t 85))) <|
          .fst (.op (some 87) none false (.pick (.t 75) (.t 86) (.c (.bool false)))) <|
          .done) <|
        (.gh (.keep [0, 1, 2, 3, 8, 9, 10, 11, 87]) (.cond (.t 87)
          (.seq (.region [.op (some 88) none false (.mv (.t 0)),
            .op (some 89) none false (.mv (.t 1)),
            .op (some 90) none false (.mv (.t 2)),
            .op (some 91) none false (.mv (.t 11)),
            .call (some 92) none (.c (.func 58)) [(.t 88), (.t 89), (.t 90), (.t 91)],
            .op (some 13) none false (.mv (.t 92)),
            .gh (.keep [0, 2, 3, 8, 9, 13])]) <|
          (.seq (.region [.op (some 93) none false (.mv (.t 13)),
            .op (some 1) none false (.mv (.t 93)),
            .gh (.keep [0, 1, 2, 3, 8, 9])]) <|
          (.exit 1)))
          .skip))) <|
        (.seq (.region [.op (some 95) none false (.mv (.t 0)),
          .op (some 96) none false (.mv (.t 1)),
          .op (some 97) none false (.mv (.t 2)),
          .op (some 98) none false (.mv (.t 11)),
          .call (some 99) none (.c (.func 59)) [(.t 95), (.t 96), (.t 97), (.t 98)],
          .op (some 94) none false (.mv (.t 99)),
          .op (some 100) none false (.extract (.t 94) 0),
          .op (some 101) none false (.extract (.t 94) 1),
          .op (some 14) none false (.mv (.t 100)),
          .op (some 15) none false (.mv (.t 101)),
          .gh (.keep [0, 1, 2, 3, 10, 14, 15])]) <|
        (.seq (.region [.op (some 102) none false (.mv (.t 15)),
          .op (some 9) none false (.mv (.t 102)),
          .gh (.keep [0, 1, 2, 3, 9, 10, 14])]) <|
        (.seq (.region [.op (some 103) none false (.mv (.t 14)),
          .op (some 104) none false (.mv (.t 1)),
          .op (some 105) none false (.bin .sub (.t 103) (.t 104)),
          .op (some 106) none false (.mv (.t 2)),
          .op (some 107) none false (.mv (.t 14)),
          .op (some 108) none false (.bin .sub (.t 106) (.t 107)),
          .op (some 16) none false (.mv (.t 105)),
          .op (some 17) none false (.mv (.t 108)),
          .gh (.keep [0, 1, 2, 3, 9, 10, 14, 16, 17])]) <|
        (.seq (.region [.op (some 109) none false (.mv (.t 10)),
          .op (some 110) none false (.bin .quo (.t 109) (.c (.int .i64 8))),
          .op (some 18) none false (.mv (.t 110)),
          .gh (.keep [0, 1, 2, 3, 9, 14, 16, 17, 18])]) <|
        (.seq (.region [.op (some 111) none false (.mv (.t 16)),
          .op (some 112) none false (.mv (.t 17)),
          .op (some 113) none false (.bin .lss (.t 111) (.t 112)),
          .gh (.keep [0, 1, 2, 3, 9, 14, 16, 17, 18, 113])]) <|
        (.cond (.t 113)
          (.seq (.region [.op (some 114) none false (.mv (.t 16)),
            .op (some 115) none false (.mv (.t 18)),
            .op (some 116) none false (.bin .geq (.t 114) (.t 115)),
            .op (some 8) none false (.mv (.t 116)),
            .gh (.keep [0, 1, 2, 3, 8, 9, 14])]) <|
          (.seq (.region [.op (some 117) none false (.mv (.t 0)),
            .op (some 118) none false (.mv (.t 1)),
            .op (some 119) none false (.mv (.t 14)),
            .op (some 120) none false (.mv (.t 3)),
            .call (some 121) none (.c (.func 46)) [(.t 117), (.t 118), (.t 119), (.t 120)],
            .gh (.keep [0, 2, 3, 8, 9, 14])]) <|
          (.region [.op (some 122) none false (.mv (.t 14)),
            .op (some 123) none false (.bin .add (.t 122) (.c (.int .i64 1))),
            .op (some 1) none false (.mv (.t 123)),
            .gh (.keep [0, 1, 2, 3, 8, 9])])))
          (.seq (.region [.op (some 124) none false (.mv (.t 17)),
            .op (some 125) none false (.mv (.t 18)),
            .op (some 126) none false (.bin .geq (.t 124) (.t 125)),
            .op (some 8) none false (.mv (.t 126)),
            .gh (.keep [0, 1, 2, 3, 8, 9, 14])]) <|
          (.seq (.region [.op (some 127) none false (.mv (.t 0)),
            .op (some 128) none false (.mv (.t 14)),
            .op (some 129) none false (.bin .add (.t 128) (.c (.int .i64 1))),
            .op (some 130) none false (.mv (.t 2)),
            .op (some 131) none false (.mv (.t 3)),
            .call (some 132) none (.c (.func 46)) [(.t 127), (.t 129), (.t 130), (.t 131)],
            .gh (.keep [0, 1, 3, 8, 9, 14])]) <|
          (.region [.op (some 133) none false (.mv (.t 14)),
            .op (some 2) none false (.mv (.t 133)),
            .gh (.keep [0, 1, 2, 3, 8, 9])])))))))))))))))))))))))
theorem tr_slices_pdqsortOrdered_int : trCode Try.prog Try.f46.ntmps (Try.f46.body.getD .skip) = some ac_slices_pdqsortOrdered_int.erase := by kernel_rfl
theorem fn_slices_pdqsortOrdered_int : Try.prog.funcs[46]? = some Try.f46 := by kernel_rfl
theorem bd_slices_pdqsortOrdered_int : Try.f46.body = some (Try.f46.body.getD .skip) := by kernel_rfl
theorem rs_slices_pdqsortOrdered_int : Try.f46.results.toList.mapM (trRes Try.prog) = some [] := by kernel_rfl
theorem go_slices_pdqsortOrdered_int {Y : YT} {kb : Nat} {args : List AV} {ob : Ob} {K : AV → Ob → Prop} (ks : Option (List Nat)) (hl : args.length ≤ 134) (h : AP Try.prog Y kb ac_slices_pdqsortOrdered_int (endK [] ks K) (mkTm 0 args) ob) : FnA Try.prog Y 46 args ob K :=
  FnA_of_awp hm fn_slices_pdqsortOrdered_int (by kernel_rfl) bd_slices_pdqsortOrdered_int tr_slices_pdqsortOrdered_int rs_slices_pdqsortOrdered_int ks hl h.out
def ac_slices_insertionSortOrdered_int : AC := (.seq (.region [.op (some 8) none false (.mv (.t 1)),
    .op (some 9) none false (.bin .add (.t 8) (.c (.int .i64 1))),
    .op (some 6) none false (.mv (.t 9)),
    .gh (.keep [0, 1, 2, 6])]) <|
  (.block 0 <|
    (.gh (.keep [0, 1, 2, 6]) (.loop <|
      (.seq (.seq (.region [.op (some 10) none false (.mv (.t 6)),
        .op (some 11) none false (.mv (.t 2)),
        .op (some 12) none false (.bin .lss (.t 10) (.t 11)),
        .gh (.keep [0, 1, 2, 6, 12])]) <|
      (.cond (.t 12)
        .skip
        (.exit 0))) <|
      (.seq (.block 1 <|
        (.seq (.region [.op (some 15) none false (.mv (.t 6)),
          .op (some 7) none false (.mv (.t 15)),
          .gh (.keep [0, 1, 2, 6, 7])]) <|
        (.block 2 <|
          (.gh (.keep [0, 1, 2, 6, 7]) (.loop <|
            (.seq (.seq (.draw <|
              .fst (.op (some 16) none false (.mv (.t 7))) <|
              .fst (.op (some 17) none false (.mv (.t 1))) <|
              .fst (.op (some 18) none false (.bin .gtr (.t 16) (.t 17))) <|
              .fst (.op (some 19) none false (.mv (.t 18))) <|
              .fst (.op (some 20) (some (19, true)) false (.mv (.t 0))) <|
              .fst (.op (some 21) (some (19, true)) false (.mv (.t 7))) <|
              .fst (.op (some 22) (some (19, true)) false (.idxA 1 (.t 20) (.t 21))) <|
              .fst (.op (some 23) (some (19, true)) false (.load false 1 (.t 22))) <|
              .fst (.op (some 24) (some (19, true)) false (.mv (.t 0))) <|
              .fst (.op (some 25) (some (19, true)) false (.mv (.t 7))) <|
              .fst (.op (some 26) (some (19, true)) false (.bin .sub (.t 25) (.c (.int .i64 1)))) <|
              .fst (.op (some 27) (some (19, true)) false (.idxA 1 (.t 24) (.t 26))) <|
              .fst (.op (some 28) (some (19, true)) false (.load false 1 (.t 27))) <|
              .main1 [] (.call (some 29) (some (19, true)) (.c (.func 57)) [(.t 23), (.t 28)]) <|
              .fst (.op (some 30) none false (.pick (.t 19) (.t 29) (.c (.bool false)))) <|
              .done) <|
            (.gh (.keep [0, 1, 2, 6, 7, 30]) (.cond (.t 30)
              .skip
              (.exit 2)))) <|
            (.seq (.block 3 <|
              (.draw <|
                .fst (.op (some 33) none false (.mv (.t 0))) <|
                .fst (.op (some 34) none false (.mv (.t 7))) <|
                .fst (.op (some 35) none false (.mv (.t 0))) <|
                .fst (.op (some 36) none false (.mv (.t 7))) <|
                .fst (.op (some 37) none false (.bin .sub (.t 36) (.c (.int .i64 1)))) <|
                .fst (.op (some 38) none false (.mv (.t 0))) <|
                .fst (.op (some 39) none false (.mv (.t 7))) <|
                .fst (.op (some 40) none false (.bin .sub (.t 39) (.c (.int .i64 1)))) <|
                .fst (.op (some 41) none false (.idxA 1 (.t 38) (.t 40))) <|
                .fst (.op (some 42) none false (.load false 1 (.t 41))) <|
                .fst (.op (some 43) none false (.mv (.t 0))) <|
                .fst (.op (some 44) none false (.mv (.t 7))) <|
                .fst (.op (some 45) none false (.idxA 1 (.t 43) (.t 44))) <|
                .fst (.op (some 46) none false (.load false 1 (.t 45))) <|
                .fst (.op (some 47) none false (.idxA 1 (.t 33) (.t 34))) <|
                .main1 [] (.op none none false (.store 1 (.t 47) (.t 42))) <|
                .fst (.op (some 48) none false (.idxA 1 (.t 35) (.t 37))) <|
                .main1 [] (.op none none false (.store 1 (.t 48) (.t 46))) <|
                .done)) <|
            (.region [.op (some 31) none false (.mv (.t 7)),
              .op (some 32) none false (.bin .sub (.t 31) (.c (.int .i64 1))),
              .op (some 7) none false (.mv (.t 32)),
              .gh (.keep [0, 1, 2, 6, 7])])))))))) <|
      (.region [.op (some 13) none false (.mv (.t 6)),
        .op (some 14) none false (.bin .add (.t 13) (.c (.int .i64 1))),
        .op (some 6) none false (.mv (.t 14)),
        .gh (.keep [0, 1, 2, 6])])))))))
theorem tr_slices_insertionSortOrdered_int : trCode Try.prog Try.f51.ntmps (Try.f51.body.getD .skip) = some ac_slices_insertionSortOrdered_int.erase := by kernel_rfl
theorem fn_slices_insertionSortOrdered_int : Try.prog.funcs[51]? = some Try.f51 := by kernel_rfl
theorem bd_slices_insertionSortOrdered_int : Try.f51.body = some (Try.f51.body.getD .skip) := by kernel_rfl
theorem rs_slices_insertionSortOrdered_int : Try.f51.results.toList.mapM (trRes Try.prog) = some [] := by kernel_rfl
theorem go_slices_insertionSortOrdered_int {Y : YT} {kb : Nat} {args : List AV} {ob : Ob} {K : AV → Ob → Prop} (ks : Option (List Nat)) (hl : args.length ≤ 49) (h : AP Try.prog Y kb ac_slices_insertionSortOrdered_int (endK [] ks K) (mkTm 0 args) ob) : FnA Try.prog Y 51 args ob K :=
  FnA_of_awp hm fn_slices_insertionSortOrdered_int (by kernel_rfl) bd_slices_insertionSortOrdered_int tr_slices_insertionSortOrdered_int rs_slices_insertionSortOrdered_int ks hl h.out
def ac_math_bits_Len : AC := (.seq (.region [.op (some 2) none false (.mv (.c (.int .i64 0)))]) <|
  (.seq (.cond (.c (.bool false))
    (.seq (.region [.op (some 3) none false (.mv (.t 0)),
      .op (some 4) none false (.conv .u32 (.t 3)),
      .call (some 5) none (.c (.func 60)) [(.t 4)],
      .op (some 2) none false (.mv (.t 5)),
      .gh (.keep [2])]) <|
    .ret)
    .skip) <|
  (.seq (.region [.op (some 6) none false (.mv (.t 0)),
    .call (some 7) none (.c (.func 61)) [(.t 6)],
    .op (some 2) none false (.mv (.t 7)),
    .gh (.keep [2])]) <|
  .ret)))
theorem tr_math_bits_Len : trCode Try.prog Try.f47.ntmps (Try.f47.body.getD .skip) = some ac_math_bits_Len.erase := by kernel_rfl
theorem fn_math_bits_Len : Try.prog.funcs[47]? = some Try.f47 := by kernel_rfl
theorem bd_math_bits_Len : Try.f47.body = some (Try.f47.body.getD .skip) := by kernel_rfl
theorem rs_math_bits_Len : Try.f47.results.toList.mapM (trRes Try.prog) = some [.tmp 2] := by kernel_rfl
theorem go_math_bits_Len {Y : YT} {kb : Nat} {args : List AV} {ob : Ob} {K : AV → Ob → Prop} (ks : Option (List Nat)) (hl : args.length ≤ 8) (h : AP Try.prog Y kb ac_math_bits_Len (endK [.tmp 2] ks K) (mkTm 0 args) ob) : FnA Try.prog Y 47 args ob K :=
  FnA_of_awp hm fn_math_bits_Len (by kernel_rfl) bd_math_bits_Len tr_math_bits_Len rs_math_bits_Len ks hl h.out
def ac_math_bits_Len64 : AC := (.seq (.region [.op (some 2) none false (.mv (.c (.int .i64 0)))]) <|
  (.seq (.seq (.region [.op (some 3) none false (.mv (.t 0)),
    .op (some 4) none false (.bin .geq (.t 3) (.c (.int .u64 4294967296))),
    .gh (.keep [0, 2, 4])]) <|
  (.cond (.t 4)
    (.seq (.region [.op (some 5) none false (.mv (.t 0)),
      .op (some 6) none false (.bin .shr (.t 5) (.c (.int .u64 32))),
      .op (some 0) none false (.mv (.t 6)),
      .gh (.keep [0])]) <|
    (.region [.op (some 2) none false (.mv (.c (.int .i64 32)))]))
    .skip)) <|
  (.seq (.seq (.region [.op (some 7) none false (.mv (.t 0)),
    .op (some 8) none false (.bin .geq (.t 7) (.c (.int .u64 65536))),
    .gh (.keep [0, 2, 8])]) <|
  (.cond (.t 8)
    (.seq (.region [.op (some 9) none false (.mv (.t 0)),
      .op (some 10) none false (.bin .shr (.t 9) (.c (.int .u64 16))),
      .op (some 0) none false (.mv (.t 10)),
      .gh (.keep [0, 2])]) <|
    (.region [.op (some 11) none false (.mv (.t 2)),
      .op (some 12) none false (.bin .add (.t 11) (.c (.int .i64 16))),
      .op (some 2) none false (.mv (.t 12)),
      .gh (.keep [0, 2])]))
    .skip)) <|
  (.seq (.seq (.region [.op (some 13) none false (.mv (.t 0)),
    .op (some 14) none false (.bin .geq (.t 13) (.c (.int .u64 256))),
    .gh (.keep [0, 2, 14])]) <|
  (.cond (.t 14)
    (.seq (.region [.op (some 15) none false (.mv (.t 0)),
      .op (some 16) none false (.bin .shr (.t 15) (.c (.int .u64 8))),
      .op (some 0) none false (.mv (.t 16)),
      .gh (.keep [0, 2])]) <|
    (.region [.op (some 17) none false (.mv (.t 2)),
      .op (some 18) none false (.bin .add (.t 17) (.c (.int .i64 8))),
      .op (some 2) none false (.mv (.t 18)),
      .gh (.keep [0, 2])]))
    .skip)) <|
  (.seq (.region [.op (some 19) none false (.mv (.t 2)),
    .op (some 20) none false (.mv (.t 0)),
    .op (some 21) none false (.conv .u8 (.t 20)),
    .op (some 22) none false (.idxS (.c (.str ⟨#[0, 1, 2, 2, 3, 3, 3, 3, 4, 4, 4, 4, 4, 4, 4, 4, 5, 5, 5, 5, 5, 5, 5, 5, 5, 5, 5, 5, 5, 5, 5, 5, 6, 6, 6, 6, 6, 6, 6, 6, 6, 6, 6, 6, 6, 6, 6, 6, 6, 6, 6, 6, 6, 6, 6, 6, 6, 6, 6, 6, 6, 6, 6, 6, 7, 7, 7, 7, 7, 7, 7, 7, 7, 7, 7, 7, 7, 7, 7, 7, 7, 7, 7, 7, 7, 7, 7, 7, 7, 7, 7, 7, 7, 7, 7, 7, 7, 7, 7, 7, 7, 7, 7, 7, 7, 7, 7, 7, 7, 7, 7, 7, 7, 7, 7, 7, 7, 7, 7, 7, 7, 7, 7, 7, 7, 7, 7, 7, 8, 8, 8, 8, 8, 8, 8, 8, 8, 8, 8, 8, 8, 8, 8, 8, 8, 8, 8, 8, 8, 8, 8, 8, 8, 8, 8, 8, 8, 8, 8, 8, 8, 8, 8, 8, 8, 8, 8, 8, 8, 8, 8, 8, 8, 8, 8, 8, 8, 8, 8, 8, 8, 8, 8, 8, 8, 8, 8, 8, 8, 8, 8, 8, 8, 8, 8, 8, 8, 8, 8, 8, 8, 8, 8, 8, 8, 8, 8, 8, 8, 8, 8, 8, 8, 8, 8, 8, 8, 8, 8, 8, 8, 8, 8, 8, 8, 8, 8, 8, 8, 8, 8, 8, 8, 8, 8, 8, 8, 8, 8, 8, 8, 8, 8, 8, 8, 8, 8, 8, 8, 8, 8, 8, 8, 8, 8, 8]⟩)) (.t 21)),
    .op (some 23) none false (.conv .i64 (.t 22)),
    .op (some 24) none false (.bin .add (.t 19) (.t 23)),
    .op (some 2) none false (.mv (.t 24)),
    .gh (.keep [2])]) <|
  .ret)))))
theorem tr_math_bits_Len64 : trCode Try.prog Try.f61.ntmps (Try.f61.body.getD .skip) = some ac_math_bits_Len64.erase := by kernel_rfl
theorem fn_math_bits_Len64 : Try.prog.funcs[61]? = some Try.f61 := by kernel_rfl
theorem bd_math_bits_Len64 : Try.f61.body = some (Try.f61.body.getD .skip) := by kernel_rfl
theorem rs_math_bits_Len64 : Try.f61.results.toList.mapM (trRes Try.prog) = some [.tmp 2] := by kernel_rfl
theorem go_math_bits_Len64 {Y : YT} {kb : Nat} {args : List AV} {ob : Ob} {K : AV → Ob → Prop} (ks : Option (List Nat)) (hl : args.length ≤ 25) (h : AP Try.prog Y kb ac_math_bits_Len64 (endK [.tmp 2] ks K) (mkTm 0 args) ob) : FnA Try.prog Y 61 args ob K :=
  FnA_of_awp hm fn_math_bits_Len64 (by kernel_rfl) bd_math_bits_Len64 tr_math_bits_Len64 rs_math_bits_Len64 ks hl h.out
def ac_slices_Equal_int_int : AC := (.seq (.region [.op (some 4) none false (.mv (.c (.bool false)))]) <|
  (.seq (.seq (.region [.op (some 6) none false (.mv (.t 0)),
    .op (some 7) none false (.len false (.t 6)),
    .op (some 8) none false (.mv (.t 1)),
    .op (some 9) none false (.len false (.t 8)),
    .op (some 10) none false (.bin .neq (.t 7) (.t 9)),
    .gh (.keep [0, 1, 10])]) <|
  (.cond (.t 10)
    (.seq (.region [.op (some 4) none false (.mv (.c (.bool false)))]) <|
    .ret)
    .skip)) <|
  (.seq (.seq (.region [.op (some 11) none false (.mv (.t 0)),
    .op (some 12) none false (.len false (.t 11)),
    .op (some 13) none false (.mv (.c (.int .i64 0))),
    .gh (.keep [0, 1, 12, 13])]) <|
  (.block 0 <|
    (.gh (.keep [0, 1, 12, 13]) (.loop <|
      (.seq (.region [.op (some 14) none false (.bin .lss (.t 13) (.t 12))]) <|
      (.seq (.cond (.t 14)
        .skip
        (.exit 0)) <|
      (.seq (.block 1 <|
        (.seq (.region [.op (some 15) none false (.mv (.t 13)),
          .op (some 5) none false (.mv (.t 15)),
          .gh (.keep [0, 1, 5, 12, 13])]) <|
        (.seq (.draw <|
          .fst (.op (some 16) none false (.mv (.t 0))) <|
          .fst (.op (some 17) none false (.mv (.t 5))) <|
          .fst (.op (some 18) none false (.idxA 1 (.t 16) (.t 17))) <|
          .fst (.op (some 19) none false (.load false 1 (.t 18))) <|
          .fst (.op (some 20) none false (.mv (.t 1))) <|
          .fst (.op (some 21) none false (.mv (.t 5))) <|
          .fst (.op (some 22) none false (.idxA 1 (.t 20) (.t 21))) <|
          .fst (.op (some 23) none false (.load false 1 (.t 22))) <|
          .fst (.op (some 24) none false (.bin .neq (.t 19) (.t 23))) <|
          .done) <|
        (.gh (.keep [0, 1, 12, 13, 24]) (.cond (.t 24)
          (.seq (.region [.op (some 4) none false (.mv (.c (.bool false)))]) <|
          .ret)
          .skip))))) <|
      (.region [.op (some 25) none false (.bin .add (.t 13) (.c (.int .i64 1))),
        .op (some 13) none false (.mv (.t 25)),
        .gh (.keep [0, 1, 12, 13])])))))))) <|
  (.seq (.region [.op (some 4) none false (.mv (.c (.bool true)))]) <|
  .ret))))
theorem tr_slices_Equal_int_int : trCode Try.prog Try.f27.ntmps (Try.f27.body.getD .skip) = some ac_slices_Equal_int_int.erase := by kernel_rfl
theorem fn_slices_Equal_int_int : Try.prog.funcs[27]? = some Try.f27 := by kernel_rfl
theorem bd_slices_Equal_int_int : Try.f27.body = some (Try.f27.body.getD .skip) := by kernel_rfl
theorem rs_slices_Equal_int_int : Try.f27.results.toList.mapM (trRes Try.prog) = some [.tmp 4] := by kernel_rfl
theorem go_slices_Equal_int_int {Y : YT} {kb : Nat} {args : List AV} {ob : Ob} {K : AV → Ob → Prop} (ks : Option (List Nat)) (hl : args.length ≤ 26) (h : AP Try.prog Y kb ac_slices_Equal_int_int (endK [.tmp 4] ks K) (mkTm 0 args) ob) : FnA Try.prog Y 27 args ob K :=
  FnA_of_awp hm fn_slices_Equal_int_int (by kernel_rfl) bd_slices_Equal_int_int tr_slices_Equal_int_int rs_slices_Equal_int_int ks hl h.out
def ard : Ar := ⟨[⟨1, 0, 0, 0⟩], [0], 1⟩
set_option maxHeartbeats 4000000 in
theorem c_valid0 : PureA Try.prog 14 [ar0.av] (.fv (.bool false)) := by
  refine ⟨fun Y => ?_⟩
  refine go_arena_Valid (kb := 100) (some []) (by simp) ?_
  unfold ac_arena_Valid
  unfold ar0 Ar.av sls ints
  repeat' (first
      | ((with_reducible refine ap_id ?_); have zT := zS; (repeat (first | clear ze | revert ze)); exact zT.out)
      | ((with_reducible apply w_dseq); intro zS)
      | ((fail_if_success exact (Hd.mk trivial : Hd True)); (with_reducible refine Hd.mk ?_))
      | with_reducible refine w_seq fun K1 zn zx zr => ?_
      | with_reducible refine w_region fun K1 zq => ?_
      | with_reducible refine w_draw fun K1 zq => ?_
      | with_reducible refine w_block fun K1 yn yb yx yr => ?_
      | with_reducible refine w_skip ?_
      | with_reducible refine w_ret ?_
      | with_reducible refine w_exit ?_
      | ((with_reducible refine w_gh ?_); simp)
      | ((with_reducible refine zq _ _ ?_); clear zq)
      | ((with_reducible refine zn _ _ ?_); clear zn zx zr)
      | ((with_reducible refine zr _ _ ?_); clear zn zx zr)
      | ((with_reducible refine zx _ _ _ ?_); clear zn zx zr)
      | ((with_reducible refine yn _ _ ?_); clear yn yb yx yr)
      | ((with_reducible refine yb _ _ ?_); clear yn yb yx yr)
      | ((with_reducible refine yr _ _ ?_); clear yn yb yx yr)
      | ((with_reducible refine yx _ _ _ (by decide) ?_); clear yn yb yx yr)
      | ((with_reducible refine e_endn ?_); simp)
      | ((with_reducible refine e_endr ?_); simp)
      | with_reducible refine e_un ?_
      | with_reducible refine e_ux ?_
      | with_reducible refine e_ur ?_
      | ((with_reducible refine u_step ?_); (try simp))
      | ((with_reducible apply s_rangeF); (case hc => rfl); intro zel zrr)
      | ((with_reducible apply o_yld); (case hf => rfl))
      | ((with_reducible refine rf_go ?h1 ?h2 ?_); (case h1 => rfl); (case h2 => first | rfl | simp); simp [tputs])
      | ((with_reducible refine r_an ?h1 ?_); (case h1 => first | rfl | simp); simp)
      | ((with_reducible refine r_bn ?h1 ?_); (case h1 => first | rfl | simp); simp)
      | ((with_reducible refine r_bx ?h1 ?_); (case h1 => first | rfl | simp); simp)
      | ((with_reducible refine r_br ?h1 ?_); (case h1 => first | rfl | simp); simp)
      | ((with_reducible refine f_en ?h1 ?_); (case h1 => rfl); simp)
      | ((with_reducible refine f_ex ?h1 ?_); (case h1 => rfl); simp)
      | ((with_reducible refine f_er ?h1 ?_); (case h1 => rfl); simp)
      | with_reducible refine e_loopx ?_
      | with_reducible refine e_loopr ?_
      | ((with_reducible refine c_true ?hc ?_); (case hc => rfl))
      | ((with_reducible refine c_false ?hc ?_); (case hc => rfl))
      | rw [i64_in _ (by omega)]
      | ((with_reducible refine o_bin ?_); ((first | ((with_reducible apply o_lss); (case hx => rfl); (case hy => rfl); (case hk => rfl)) | ((with_reducible apply o_leq); (case hx => rfl); (case hy => rfl); (case hk => rfl)) | ((with_reducible apply o_gtr); (case hx => rfl); (case hy => rfl); (case hk => rfl)) | ((with_reducible apply o_geq); (case hx => rfl); (case hy => rfl); (case hk => rfl)) | ((with_reducible apply o_eql); (case hx => rfl); (case hy => rfl); (case hk => rfl)) | ((with_reducible apply o_neq); (case hx => rfl); (case hy => rfl); (case hk => rfl))) <;> (intro h; first | (exfalso; omega) | simp)))
      | ((with_reducible apply o_eqnil); (case hx => rfl); all_goals (try intro h); all_goals simp)
      | ((with_reducible refine o_op fun _ _ => ?_); simp)
      | ((with_reducible refine o_gt ?hg ?_); (case hg => rfl))
      | ((with_reducible apply o_gs); (case hg => rfl); (case hn => rfl); simp only [skipD, tdel, Nat.reduceEqDiff, reduceIte])
      | ((with_reducible refine o_cgt ?hg ?_); (case hg => rfl))
      | ((with_reducible apply o_cgs); (case hg => rfl); (case hn => rfl); simp only [skipD, tdel, Nat.reduceEqDiff, reduceIte])
      | with_reducible refine o_nil ?_
      | with_reducible exact d_stop
      | ((with_reducible refine d_done ?_); (try simp))
      | ((with_reducible refine d_bin ?_); ((first | ((with_reducible apply d_lss); (case hx => rfl); (case hy => rfl); (case hk => rfl)) | ((with_reducible apply d_leq); (case hx => rfl); (case hy => rfl); (case hk => rfl)) | ((with_reducible apply d_gtr); (case hx => rfl); (case hy => rfl); (case hk => rfl)) | ((with_reducible apply d_geq); (case hx => rfl); (case hy => rfl); (case hk => rfl)) | ((with_reducible apply d_eql); (case hx => rfl); (case hy => rfl); (case hk => rfl)) | ((with_reducible apply d_neq); (case hx => rfl); (case hy => rfl); (case hk => rfl))) <;> (intro h; first | (exfalso; omega) | simp)))
      | ((with_reducible refine d_fst ?_); simp [and_assoc])
      | ((with_reducible refine d_fst_gt ?hg ?_); (case hg => rfl))
      | ((with_reducible apply d_fst_gs); (case hg => rfl); (case hn => rfl); simp only [skipD, tdel, Nat.reduceEqDiff, reduceIte])
      | ((with_reducible refine d_main_gt ?hg ?_); (case hg => rfl))
      | ((with_reducible apply d_main_gs); (case hg => rfl); (case hn => rfl); all_goals (try simp only [skipD, tdel, Nat.reduceEqDiff, reduceIte]))
      | ((with_reducible refine d_call_gt ?hg ?_); (case hg => rfl))
      | ((with_reducible apply d_call_gs); (case hg => rfl); (case hn => rfl); all_goals (try simp only [skipD, tdel, Nat.reduceEqDiff, reduceIte]))
      | ((with_reducible refine d_main (fun ze => ?_) d_stop); simp)
      | ((with_reducible refine d_main (fun ze => ?_) ?_); simp)
      | ((with_reducible refine o_gh ?_); simp)
      | (with_reducible refine isR_mk ?_ (by simp))
      | ((with_reducible apply o_callp (n := 17)); (case hf => rfl); (case hp => exact c_arena_within _ _ _); ((refine o_dec (fun h => ?_) (fun h => ?_)) <;> (first | (exfalso; omega) | simp)))
      | (with_reducible refine And.intro (by omega) ?_)
      | (refine And.intro (ints_hd _) ?_)
      | (refine And.intro (sls_hd _) ?_)
      | (with_reducible refine fun (ze : Nat) => ?_)
      | ((with_reducible apply o_call); (case hf => rfl))
      | ((with_reducible apply o_callc); (case hf => rfl))
      | fail)
  all_goals simp
theorem w64 : IntKind.u64.wrap 1 = 1 := by decide
theorem w8 : IntKind.u8.wrap 1 = 1 := by decide
set_option maxRecDepth 100000 in
set_option maxHeartbeats 8000000 in
theorem c_len1 : PureA Try.prog 61 [.fv (.int .u64 1)] (.fv (.int .i64 1)) := by
  refine ⟨fun Y => ?_⟩
  refine go_math_bits_Len64 (kb := 100) (some []) (by simp) ?_
  unfold ac_math_bits_Len64
  repeat' (first
      | ((with_reducible refine ap_id ?_); have zT := zS; (repeat (first | clear ze | revert ze)); exact zT.out)
      | ((with_reducible apply w_dseq); intro zS)
      | ((fail_if_success exact (Hd.mk trivial : Hd True)); (with_reducible refine Hd.mk ?_))
      | with_reducible refine w_seq fun K1 zn zx zr => ?_
      | with_reducible refine w_region fun K1 zq => ?_
      | with_reducible refine w_draw fun K1 zq => ?_
      | with_reducible refine w_block fun K1 yn yb yx yr => ?_
      | with_reducible refine w_skip ?_
      | with_reducible refine w_ret ?_
      | with_reducible refine w_exit ?_
      | ((with_reducible refine w_gh ?_); simp)
      | ((with_reducible refine zq _ _ ?_); clear zq)
      | ((with_reducible refine zn _ _ ?_); clear zn zx zr)
      | ((with_reducible refine zr _ _ ?_); clear zn zx zr)
      | ((with_reducible refine zx _ _ _ ?_); clear zn zx zr)
      | ((with_reducible refine yn _ _ ?_); clear yn yb yx yr)
      | ((with_reducible refine yb _ _ ?_); clear yn yb yx yr)
      | ((with_reducible refine yr _ _ ?_); clear yn yb yx yr)
      | ((with_reducible refine yx _ _ _ (by decide) ?_); clear yn yb yx yr)
      | ((with_reducible refine e_endn ?_); simp)
      | ((with_reducible refine e_endr ?_); simp)
      | with_reducible refine e_un ?_
      | with_reducible refine e_ux ?_
      | with_reducible refine e_ur ?_
      | ((with_reducible refine u_step ?_); (try simp))
      | ((with_reducible apply s_rangeF); (case hc => rfl); intro zel zrr)
      | ((with_reducible apply o_yld); (case hf => rfl))
      | ((with_reducible refine rf_go ?h1 ?h2 ?_); (case h1 => rfl); (case h2 => first | rfl | simp); simp [tputs])
      | ((with_reducible refine r_an ?h1 ?_); (case h1 => first | rfl | simp); simp)
      | ((with_reducible refine r_bn ?h1 ?_); (case h1 => first | rfl | simp); simp)
      | ((with_reducible refine r_bx ?h1 ?_); (case h1 => first | rfl | simp); simp)
      | ((with_reducible refine r_br ?h1 ?_); (case h1 => first | rfl | simp); simp)
      | ((with_reducible refine f_en ?h1 ?_); (case h1 => rfl); simp)
      | ((with_reducible refine f_ex ?h1 ?_); (case h1 => rfl); simp)
      | ((with_reducible refine f_er ?h1 ?_); (case h1 => rfl); simp)
      | with_reducible refine e_loopx ?_
      | with_reducible refine e_loopr ?_
      | ((with_reducible refine c_true ?hc ?_); (case hc => rfl))
      | ((with_reducible refine c_false ?hc ?_); (case hc => rfl))
      | (rw [w8]; try simp)
      | (rw [w64]; try simp)
      | rw [i64_in _ (by omega)]
      | ((with_reducible refine o_bin ?_); ((first | ((with_reducible apply o_lss); (case hx => rfl); (case hy => rfl); (case hk => rfl)) | ((with_reducible apply o_leq); (case hx => rfl); (case hy => rfl); (case hk => rfl)) | ((with_reducible apply o_gtr); (case hx => rfl); (case hy => rfl); (case hk => rfl)) | ((with_reducible apply o_geq); (case hx => rfl); (case hy => rfl); (case hk => rfl)) | ((with_reducible apply o_eql); (case hx => rfl); (case hy => rfl); (case hk => rfl)) | ((with_reducible apply o_neq); (case hx => rfl); (case hy => rfl); (case hk => rfl))) <;> (intro h; first | (exfalso; omega) | simp)))
      | ((with_reducible apply o_eqnil); (case hx => rfl); all_goals (try intro h); all_goals simp)
      | ((with_reducible refine o_op fun _ _ => ?_); simp)
      | ((with_reducible refine o_gt ?hg ?_); (case hg => rfl))
      | ((with_reducible apply o_gs); (case hg => rfl); (case hn => rfl); simp only [skipD, tdel, Nat.reduceEqDiff, reduceIte])
      | ((with_reducible refine o_cgt ?hg ?_); (case hg => rfl))
      | ((with_reducible apply o_cgs); (case hg => rfl); (case hn => rfl); simp only [skipD, tdel, Nat.reduceEqDiff, reduceIte])
      | with_reducible refine o_nil ?_
      | with_reducible exact d_stop
      | ((with_reducible refine d_done ?_); (try simp))
      | ((with_reducible refine d_bin ?_); ((first | ((with_reducible apply d_lss); (case hx => rfl); (case hy => rfl); (case hk => rfl)) | ((with_reducible apply d_leq); (case hx => rfl); (case hy => rfl); (case hk => rfl)) | ((with_reducible apply d_gtr); (case hx => rfl); (case hy => rfl); (case hk => rfl)) | ((with_reducible apply d_geq); (case hx => rfl); (case hy => rfl); (case hk => rfl)) | ((with_reducible apply d_eql); (case hx => rfl); (case hy => rfl); (case hk => rfl)) | ((with_reducible apply d_neq); (case hx => rfl); (case hy => rfl); (case hk => rfl))) <;> (intro h; first | (exfalso; omega) | simp)))
      | ((with_reducible refine d_fst ?_); simp [and_assoc])
      | ((with_reducible refine d_fst_gt ?hg ?_); (case hg => rfl))
      | ((with_reducible apply d_fst_gs); (case hg => rfl); (case hn => rfl); simp only [skipD, tdel, Nat.reduceEqDiff, reduceIte])
      | ((with_reducible refine d_main_gt ?hg ?_); (case hg => rfl))
      | ((with_reducible apply d_main_gs); (case hg => rfl); (case hn => rfl); all_goals (try simp only [skipD, tdel, Nat.reduceEqDiff, reduceIte]))
      | ((with_reducible refine d_call_gt ?hg ?_); (case hg => rfl))
      | ((with_reducible apply d_call_gs); (case hg => rfl); (case hn => rfl); all_goals (try simp only [skipD, tdel, Nat.reduceEqDiff, reduceIte]))
      | ((with_reducible refine d_main (fun ze => ?_) d_stop); simp)
      | ((with_reducible refine d_main (fun ze => ?_) ?_); simp)
      | ((with_reducible refine o_gh ?_); simp)
      | (with_reducible refine isR_mk ?_ (by simp))
      | (refine And.intro (by decide) ?_)
      | (with_reducible refine And.intro (by omega) ?_)
      | (refine And.intro (ints_hd _) ?_)
      | (refine And.intro (sls_hd _) ?_)
      | (with_reducible refine fun (ze : Nat) => ?_)
      | ((with_reducible apply o_call); (case hf => rfl))
      | ((with_reducible apply o_callc); (case hf => rfl))
      | fail)
  all_goals simp
set_option maxHeartbeats 8000000 in
theorem c_validd : PureA Try.prog 14 [ard.av] (.fv (.bool true)) := by
  refine ⟨fun Y => ?_⟩
  refine go_arena_Valid (kb := 100) (some []) (by simp) ?_
  unfold ac_arena_Valid
  unfold ard Ar.av sls ints
  simp only [List.map_cons, List.map_nil, Sl.fv]
  repeat' (first
      | ((with_reducible refine ap_id ?_); have zT := zS; (repeat (first | clear ze | revert ze)); exact zT.out)
      | ((with_reducible apply w_dseq); intro zS)
      | ((fail_if_success exact (Hd.mk trivial : Hd True)); (with_reducible refine Hd.mk ?_))
      | with_reducible refine w_seq fun K1 zn zx zr => ?_
      | with_reducible refine w_region fun K1 zq => ?_
      | with_reducible refine w_draw fun K1 zq => ?_
      | with_reducible refine w_block fun K1 yn yb yx yr => ?_
      | with_reducible refine w_skip ?_
      | with_reducible refine w_ret ?_
      | with_reducible refine w_exit ?_
      | ((with_reducible refine w_gh ?_); simp)
      | ((with_reducible refine zq _ _ ?_); clear zq)
      | ((with_reducible refine zn _ _ ?_); clear zn zx zr)
      | ((with_reducible refine zr _ _ ?_); clear zn zx zr)
      | ((with_reducible refine zx _ _ _ ?_); clear zn zx zr)
      | ((with_reducible refine yn _ _ ?_); clear yn yb yx yr)
      | ((with_reducible refine yb _ _ ?_); clear yn yb yx yr)
      | ((with_reducible refine yr _ _ ?_); clear yn yb yx yr)
      | ((with_reducible refine yx _ _ _ (by decide) ?_); clear yn yb yx yr)
      | ((with_reducible refine e_endn ?_); simp)
      | ((with_reducible refine e_endr ?_); simp)
      | with_reducible refine e_un ?_
      | with_reducible refine e_ux ?_
      | with_reducible refine e_ur ?_
      | ((with_reducible refine u_step ?_); (try simp))
      | ((with_reducible apply s_rangeF); (case hc => rfl); intro zel zrr)
      | ((with_reducible apply o_yld); (case hf => rfl))
      | ((with_reducible refine rf_go ?h1 ?h2 ?_); (case h1 => rfl); (case h2 => first | rfl | simp); simp [tputs])
      | ((with_reducible refine r_an ?h1 ?_); (case h1 => first | rfl | simp); simp)
      | ((with_reducible refine r_bn ?h1 ?_); (case h1 => first | rfl | simp); simp)
      | ((with_reducible refine r_bx ?h1 ?_); (case h1 => first | rfl | simp); simp)
      | ((with_reducible refine r_br ?h1 ?_); (case h1 => first | rfl | simp); simp)
      | ((with_reducible refine f_en ?h1 ?_); (case h1 => rfl); simp)
      | ((with_reducible refine f_ex ?h1 ?_); (case h1 => rfl); simp)
      | ((with_reducible refine f_er ?h1 ?_); (case h1 => rfl); simp)
      | with_reducible refine e_loopx ?_
      | with_reducible refine e_loopr ?_
      | ((with_reducible refine c_true ?hc ?_); (case hc => rfl))
      | ((with_reducible refine c_false ?hc ?_); (case hc => rfl))
      | (rw [w64]; try simp)
      | rw [i64_in _ (by omega)]
      | ((with_reducible refine o_bin ?_); ((first | ((with_reducible apply o_lss); (case hx => rfl); (case hy => rfl); (case hk => rfl)) | ((with_reducible apply o_leq); (case hx => rfl); (case hy => rfl); (case hk => rfl)) | ((with_reducible apply o_gtr); (case hx => rfl); (case hy => rfl); (case hk => rfl)) | ((with_reducible apply o_geq); (case hx => rfl); (case hy => rfl); (case hk => rfl)) | ((with_reducible apply o_eql); (case hx => rfl); (case hy => rfl); (case hk => rfl)) | ((with_reducible apply o_neq); (case hx => rfl); (case hy => rfl); (case hk => rfl))) <;> (intro h; first | (exfalso; omega) | simp)))
      | ((with_reducible apply o_eqnil); (case hx => rfl); all_goals (try intro h); all_goals simp)
      | ((with_reducible refine o_op fun _ _ => ?_); simp)
      | ((with_reducible refine o_gt ?hg ?_); (case hg => rfl))
      | ((with_reducible apply o_gs); (case hg => rfl); (case hn => rfl); simp only [skipD, tdel, Nat.reduceEqDiff, reduceIte])
      | ((with_reducible refine o_cgt ?hg ?_); (case hg => rfl))
      | ((with_reducible apply o_cgs); (case hg => rfl); (case hn => rfl); simp only [skipD, tdel, Nat.reduceEqDiff, reduceIte])
      | with_reducible refine o_nil ?_
      | with_reducible exact d_stop
      | ((with_reducible refine d_done ?_); (try simp))
      | ((with_reducible refine d_bin ?_); ((first | ((with_reducible apply d_lss); (case hx => rfl); (case hy => rfl); (case hk => rfl)) | ((with_reducible apply d_leq); (case hx => rfl); (case hy => rfl); (case hk => rfl)) | ((with_reducible apply d_gtr); (case hx => rfl); (case hy => rfl); (case hk => rfl)) | ((with_reducible apply d_geq); (case hx => rfl); (case hy => rfl); (case hk => rfl)) | ((with_reducible apply d_eql); (case hx => rfl); (case hy => rfl); (case hk => rfl)) | ((with_reducible apply d_neq); (case hx => rfl); (case hy => rfl); (case hk => rfl))) <;> (intro h; first | (exfalso; omega) | simp)))
      | ((with_reducible refine d_fst ?_); simp [and_assoc])
      | ((with_reducible refine d_fst_gt ?hg ?_); (case hg => rfl))
      | ((with_reducible apply d_fst_gs); (case hg => rfl); (case hn => rfl); simp only [skipD, tdel, Nat.reduceEqDiff, reduceIte])
      | ((with_reducible refine d_main_gt ?hg ?_); (case hg => rfl))
      | ((with_reducible apply d_main_gs); (case hg => rfl); (case hn => rfl); all_goals (try simp only [skipD, tdel, Nat.reduceEqDiff, reduceIte]))
      | ((with_reducible refine d_call_gt ?hg ?_); (case hg => rfl))
      | ((with_reducible apply d_call_gs); (case hg => rfl); (case hn => rfl); all_goals (try simp only [skipD, tdel, Nat.reduceEqDiff, reduceIte]))
      | ((with_reducible refine d_main (fun ze => ?_) d_stop); simp)
      | ((with_reducible refine d_main (fun ze => ?_) ?_); simp)
      | ((with_reducible refine o_gh ?_); simp)
      | (with_reducible refine isR_mk ?_ (by simp))
      | ((with_reducible apply o_callp (n := 17)); (case hf => rfl); (case hp => exact c_arena_within _ _ _); ((refine o_dec (fun h => ?_) (fun h => ?_)) <;> (first | (exfalso; omega) | simp)))
      | ((with_reducible apply o_callp (n := 57)); (case hf => rfl); (case hp => exact c_cmp_Less_int _ _); ((refine o_dec (fun h => ?_) (fun h => ?_)) <;> (first | (exfalso; omega) | simp)))
      | ((with_reducible apply o_callp (n := 61)); (case hf => rfl); (case hp => exact c_len1);  simp)
      | (with_reducible refine s_unroll 3 ?_)
      | ((with_reducible refine go_arena_valid (kb := 28000) none (by simp) ?_); unfold ac_arena_valid)
      | ((with_reducible refine go_slices_Values_int_int (kb := 31000) none (by simp) ?_); unfold ac_slices_Values_int_int)
      | ((with_reducible refine go_slices_Values_int_int_1 (kb := 40000) none (by simp) ?_); unfold ac_slices_Values_int_int_1)
      | ((with_reducible refine go_slices_Sorted_int (kb := 30000) none (by simp) ?_); unfold ac_slices_Sorted_int)
      | ((with_reducible refine go_slices_Collect_int (kb := 38000) none (by simp) ?_); unfold ac_slices_Collect_int)
      | ((with_reducible refine go_slices_AppendSeq_int_int (kb := 47000) none (by simp) ?_); unfold ac_slices_AppendSeq_int_int)
      | ((with_reducible refine go_slices_Sort_int_int (kb := 39000) none (by simp) ?_); unfold ac_slices_Sort_int_int)
      | ((with_reducible refine go_slices_pdqsortOrdered_int (kb := 48000) none (by simp) ?_); unfold ac_slices_pdqsortOrdered_int)
      | ((with_reducible refine go_slices_insertionSortOrdered_int (kb := 53000) none (by simp) ?_); unfold ac_slices_insertionSortOrdered_int)
      | ((with_reducible refine go_math_bits_Len (kb := 49000) none (by simp) ?_); unfold ac_math_bits_Len)
      | ((with_reducible refine go_slices_Equal_int_int (kb := 29000) none (by simp) ?_); unfold ac_slices_Equal_int_int)
      | (with_reducible refine And.intro (by omega) ?_)
      | (refine And.intro (ints_hd _) ?_)
      | (refine And.intro (sls_hd _) ?_)
      | (with_reducible refine fun (ze : Nat) => ?_)
      | ((with_reducible apply o_call); (case hf => rfl))
      | ((with_reducible apply o_callc); (case hf => rfl))
      | fail)
  all_goals simp
end Go.Proofs.RL
