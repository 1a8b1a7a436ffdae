/- A law on Go's '==' between two errors of one integer type: as their numbers are. Its conditions: the types are these. -/
import Derived.LaidEql
import Derived.KernelRfl
import Derived.Test.YtkeijpngfnmjoaaProg
namespace Go.Proofs.Ytkeijpngfnmjoaa.MineErr
section
variable {P : Program} (w : World)

theorem run_equalIn_iface_int (d : Nat) {ti tn : TypeId} {ms : Array (String × TypeId)} {i : TypeInfo} {k : IntKind} (a b : Int)
    (hi : P.underlying ti = some (.interface ms)) (hn : P.underlying tn = some (.int k)) (hinfo : P.info? tn = some i) (hcomp : i.comparable = true) :
    (Op.equalIn (d + 2) ti (.iface tn (.int k a)) (.iface tn (.int k b))).run P w = .ok (a == b) w := by
  simp [Op.equalIn, run_underlying hi, run_underlying hn, typeInfo, hinfo, hcomp]

/-- 'x == y', both interface values of one integer type: as the numbers are. -/
theorem run_eql_iface_int {ti tn : TypeId} {ms : Array (String × TypeId)} {i : TypeInfo} {k : IntKind} (a b : Int)
    (hi : P.underlying ti = some (.interface ms)) (hn : P.underlying tn = some (.int k)) (hinfo : P.info? tn = some i) (hcomp : i.comparable = true) :
    (binOp .eql ti (.iface tn (.int k a)) (.iface tn (.int k b))).run P w = .ok (.bool (a == b)) w := by
  simp only [binOp]
  simp [Op.equal, Op.maxDepth, run_equalIn_iface_int w 9998 a b hi hn hinfo hcomp]
theorem run_neq_iface_int {ti tn : TypeId} {ms : Array (String × TypeId)} {i : TypeInfo} {k : IntKind} (a b : Int)
    (hi : P.underlying ti = some (.interface ms)) (hn : P.underlying tn = some (.int k)) (hinfo : P.info? tn = some i) (hcomp : i.comparable = true) :
    (binOp .neq ti (.iface tn (.int k a)) (.iface tn (.int k b))).run P w = .ok (.bool (a != b)) w := by
  simp only [binOp]
  simp [Op.equal, Op.maxDepth, run_equalIn_iface_int w 9998 a b hi hn hinfo hcomp, bne]
end
theorem infoC : (Try.prog.info? 39).map (fun i => i.comparable) = some true := by kernel_rfl
theorem eql_err (a b : Int) (w : World) : (binOp .eql 27 (.iface 39 (.int .i64 a)) (.iface 39 (.int .i64 b))).run Try.prog w = .ok (.bool (a == b)) w := by
  obtain ⟨i, hi, hc⟩ := Option.map_eq_some_iff.1 infoC
  exact run_eql_iface_int w a b Try.underlying27 Try.underlying39 hi hc
theorem neq_err (a b : Int) (w : World) : (binOp .neq 27 (.iface 39 (.int .i64 a)) (.iface 39 (.int .i64 b))).run Try.prog w = .ok (.bool (a != b)) w := by
  obtain ⟨i, hi, hc⟩ := Option.map_eq_some_iff.1 infoC
  exact run_neq_iface_int w a b Try.underlying27 Try.underlying39 hi hc
theorem eql_nil_err (b : Int) (w : World) : (binOp .eql 27 .nilIface (.iface 39 (.int .i64 b))).run Try.prog w = .ok (.bool false) w :=
  run_eql_iface_nil_left w 39 _ Try.underlying27
theorem neq_nil_err (b : Int) (w : World) : (binOp .neq 27 .nilIface (.iface 39 (.int .i64 b))).run Try.prog w = .ok (.bool true) w := by
  have h : ∀ d : Nat, (Op.equalIn (d + 1) 27 .nilIface (.iface 39 (.int .i64 b))).run Try.prog w = .ok false w := fun d => by simp [Op.equalIn, run_underlying Try.underlying27]
  simp only [binOp]
  simp [Op.equal, Op.maxDepth, h 9999]
end Go.Proofs.Ytkeijpngfnmjoaa.MineErr
