/- What the tables say of each type. -/
import Derived.Test.YtamdmfgonfibgaaGreatDoorTz
namespace Go.Ev
open Go Go.Proofs
set_option maxRecDepth 100000
@[simp] theorem tU (t : TypeId) : TT.und t = Tryz.prog.underlying t := rfl
attribute [simp] Tryz.underlying0 Tryz.underlying1 Tryz.underlying2 Tryz.underlying3 Tryz.underlying4 Tryz.underlying5 Tryz.underlying6 Tryz.underlying7 Tryz.underlying8 Tryz.underlying9 Tryz.underlying10 Tryz.underlying11 Tryz.underlying12 Tryz.underlying13 Tryz.underlying14 Tryz.underlying15 Tryz.underlying16 Tryz.underlying17 Tryz.underlying18 Tryz.underlying19 Tryz.underlying20 Tryz.underlying21 Tryz.underlying22 Tryz.underlying23 Tryz.underlying24 Tryz.underlying25 Tryz.underlying26 Tryz.underlying27 Tryz.underlying28 Tryz.underlying29 Tryz.underlying30 Tryz.underlying31 Tryz.underlying32 Tryz.underlying33 Tryz.underlying34 Tryz.underlying35 Tryz.underlying36 Tryz.underlying37 Tryz.underlying38 Tryz.underlying39 Tryz.underlying40 Tryz.underlying41 Tryz.underlying42 Tryz.underlying43 Tryz.underlying44 Tryz.underlying45 Tryz.underlying46 Tryz.underlying47 Tryz.underlying48 Tryz.underlying49 Tryz.underlying50 Tryz.underlying51 Tryz.underlying52 Tryz.underlying53 Tryz.underlying54 Tryz.underlying55 Tryz.underlying56 Tryz.underlying57 Tryz.underlying58 Tryz.underlying59 Tryz.underlying60 Tryz.underlying61 Tryz.underlying62 Tryz.underlying63 Tryz.underlying64 Tryz.underlying65 Tryz.underlying66 Tryz.underlying67 Tryz.underlying68 Tryz.underlying69 Tryz.underlying70 Tryz.underlying71 Tryz.underlying72 Tryz.underlying73 Tryz.underlying74 Tryz.underlying75 Tryz.underlying76 Tryz.underlying77 Tryz.underlying78 Tryz.underlying79 Tryz.underlying80 Tryz.underlying81 Tryz.underlying82 Tryz.underlying83 Tryz.underlying84 Tryz.underlying85 Tryz.underlying86 Tryz.underlying87 Tryz.underlying88 Tryz.underlying89 Tryz.underlying90 Tryz.underlying91 Tryz.underlying92 Tryz.underlying93 Tryz.underlying94 Tryz.underlying95 Tryz.underlying96 Tryz.underlying97 Tryz.underlying98 Tryz.underlying99 Tryz.underlying100 Tryz.underlying101 Tryz.underlying102 Tryz.underlying103 Tryz.underlying104 Tryz.underlying105 Tryz.underlying106 Tryz.underlying107 Tryz.underlying108 Tryz.underlying109 Tryz.underlying110 Tryz.underlying111 Tryz.underlying112 Tryz.underlying113 Tryz.underlying114 Tryz.underlying115 Tryz.underlying116 Tryz.underlying117 Tryz.underlying118 Tryz.underlying119 Tryz.underlying120 Tryz.underlying121 Tryz.underlying122 Tryz.underlying123 Tryz.underlying124 Tryz.underlying125 Tryz.underlying126 Tryz.underlying127 Tryz.underlying128 Tryz.underlying129 Tryz.underlying130 Tryz.underlying131 Tryz.underlying132 Tryz.underlying133 Tryz.underlying134 Tryz.underlying135 Tryz.underlying136 Tryz.underlying137 Tryz.underlying138 Tryz.underlying139 Tryz.underlying140 Tryz.underlying141 Tryz.underlying142 Tryz.underlying143 Tryz.underlying144 Tryz.underlying145 Tryz.underlying146 Tryz.underlying147 Tryz.underlying148 Tryz.underlying149 Tryz.underlying150 Tryz.underlying151 Tryz.underlying152 Tryz.underlying153 Tryz.underlying154 Tryz.underlying155 Tryz.underlying156 Tryz.underlying157 Tryz.underlying158 Tryz.underlying159 Tryz.underlying160 Tryz.underlying161
@[simp] theorem tS0 : TT.size 0 = some 1 := rfl
@[simp] theorem tB0 : TT.bytes 0 = some 0 := rfl
@[simp] theorem tZ0 : TT.zero 0 = some (.un) := rfl
@[simp] theorem tS1 : TT.size 1 = some 1 := rfl
@[simp] theorem tB1 : TT.bytes 1 = some 8 := rfl
@[simp] theorem tZ1 : TT.zero 1 = some (.nilf) := rfl
@[simp] theorem tS2 : TT.size 2 = some 1 := rfl
@[simp] theorem tB2 : TT.bytes 2 = some 8 := rfl
@[simp] theorem tZ2 : TT.zero 2 = some (.i .i64 0) := rfl
@[simp] theorem tS3 : TT.size 3 = some 1 := rfl
@[simp] theorem tB3 : TT.bytes 3 = some 8 := rfl
@[simp] theorem tZ3 : TT.zero 3 = some (.i .i64 0) := rfl
@[simp] theorem tS4 : TT.size 4 = some 1 := rfl
@[simp] theorem tB4 : TT.bytes 4 = some 1 := rfl
@[simp] theorem tZ4 : TT.zero 4 = some (.b false) := rfl
@[simp] theorem tS5 : TT.size 5 = some 1 := rfl
@[simp] theorem tB5 : TT.bytes 5 = some 1 := rfl
@[simp] theorem tZ5 : TT.zero 5 = some (.i .u8 0) := rfl
@[simp] theorem tS6 : TT.size 6 = some 1 := rfl
@[simp] theorem tB6 : TT.bytes 6 = some 1 := rfl
@[simp] theorem tZ6 : TT.zero 6 = some (.i .u8 0) := rfl
@[simp] theorem tS7 : TT.size 7 = some 4 := rfl
@[simp] theorem tB7 : TT.bytes 7 = some 24 := rfl
@[simp] theorem tZ7 : TT.zero 7 = some (.agg [.i .i64 0, .i .i64 0, .b false, .i .u8 0]) := rfl
@[simp] theorem tS8 : TT.size 8 = some 4 := rfl
@[simp] theorem tB8 : TT.bytes 8 = some 24 := rfl
@[simp] theorem tZ8 : TT.zero 8 = some (.agg [.i .i64 0, .i .i64 0, .b false, .i .u8 0]) := rfl
@[simp] theorem tS9 : TT.size 9 = some 1 := rfl
@[simp] theorem tB9 : TT.bytes 9 = some 16 := rfl
@[simp] theorem tZ9 : TT.zero 9 = some (.s []) := rfl
@[simp] theorem tS10 : TT.size 10 = some 1 := rfl
@[simp] theorem tB10 : TT.bytes 10 = some 16 := rfl
@[simp] theorem tZ10 : TT.zero 10 = some (.s []) := rfl
@[simp] theorem tS11 : TT.size 11 = some 1 := rfl
@[simp] theorem tB11 : TT.bytes 11 = some 16 := rfl
@[simp] theorem tZ11 : TT.zero 11 = some (.s []) := rfl
@[simp] theorem tS12 : TT.size 12 = some 1 := rfl
@[simp] theorem tB12 : TT.bytes 12 = some 8 := rfl
@[simp] theorem tZ12 : TT.zero 12 = some (.i .u64 0) := rfl
@[simp] theorem tS13 : TT.size 13 = some 2 := rfl
@[simp] theorem tB13 : TT.bytes 13 = some 24 := rfl
@[simp] theorem tZ13 : TT.zero 13 = some (.agg [.s [], .i .u64 0]) := rfl
@[simp] theorem tS14 : TT.size 14 = some 2 := rfl
@[simp] theorem tB14 : TT.bytes 14 = some 24 := rfl
@[simp] theorem tZ14 : TT.zero 14 = some (.agg [.s [], .i .u64 0]) := rfl
@[simp] theorem tS15 : TT.size 15 = some 1 := rfl
@[simp] theorem tB15 : TT.bytes 15 = some 8 := rfl
@[simp] theorem tZ15 : TT.zero 15 = some (.nilp) := rfl
@[simp] theorem tS16 : TT.size 16 = some 1 := rfl
@[simp] theorem tB16 : TT.bytes 16 = some 8 := rfl
@[simp] theorem tZ16 : TT.zero 16 = some (.nilp) := rfl
@[simp] theorem tS17 : TT.size 17 = some 1 := rfl
@[simp] theorem tB17 : TT.bytes 17 = some 8 := rfl
@[simp] theorem tZ17 : TT.zero 17 = some (.nilp) := rfl
@[simp] theorem tS18 : TT.size 18 = some 1 := rfl
@[simp] theorem tB18 : TT.bytes 18 = some 8 := rfl
@[simp] theorem tZ18 : TT.zero 18 = some (.agg [.nilp]) := rfl
@[simp] theorem tS19 : TT.size 19 = some 1 := rfl
@[simp] theorem tB19 : TT.bytes 19 = some 8 := rfl
@[simp] theorem tZ19 : TT.zero 19 = some (.agg [.nilp]) := rfl
@[simp] theorem tS20 : TT.size 20 = some 1 := rfl
@[simp] theorem tB20 : TT.bytes 20 = some 16 := rfl
@[simp] theorem tZ20 : TT.zero 20 = some (.nili) := rfl
@[simp] theorem tS21 : TT.size 21 = some 1 := rfl
@[simp] theorem tB21 : TT.bytes 21 = some 4 := rfl
@[simp] theorem tZ21 : TT.zero 21 = some (.i .i32 0) := rfl
@[simp] theorem tS22 : TT.size 22 = some 1 := rfl
@[simp] theorem tB22 : TT.bytes 22 = some 24 := rfl
@[simp] theorem tZ22 : TT.zero 22 = some (.nils) := rfl
@[simp] theorem tS23 : TT.size 23 = some 3 := rfl
@[simp] theorem tB23 : TT.bytes 23 = some 48 := rfl
@[simp] theorem tZ23 : TT.zero 23 = some (.agg [.i .i64 0, .s [], .nils]) := rfl
@[simp] theorem tS24 : TT.size 24 = some 3 := rfl
@[simp] theorem tB24 : TT.bytes 24 = some 48 := rfl
@[simp] theorem tZ24 : TT.zero 24 = some (.agg [.i .i64 0, .s [], .nils]) := rfl
@[simp] theorem tS25 : TT.size 25 = some 1 := rfl
@[simp] theorem tB25 : TT.bytes 25 = some 8 := rfl
@[simp] theorem tZ25 : TT.zero 25 = some (.nilf) := rfl
@[simp] theorem tS26 : TT.size 26 = some 1 := rfl
@[simp] theorem tB26 : TT.bytes 26 = some 8 := rfl
@[simp] theorem tZ26 : TT.zero 26 = some (.nilf) := rfl
@[simp] theorem tS27 : TT.size 27 = some 1 := rfl
@[simp] theorem tB27 : TT.bytes 27 = some 8 := rfl
@[simp] theorem tZ27 : TT.zero 27 = some (.nilf) := rfl
@[simp] theorem tS28 : TT.size 28 = some 1 := rfl
@[simp] theorem tB28 : TT.bytes 28 = some 0 := rfl
@[simp] theorem tS29 : TT.size 29 = some 1 := rfl
@[simp] theorem tB29 : TT.bytes 29 = some 8 := rfl
@[simp] theorem tZ29 : TT.zero 29 = some (.nilf) := rfl
@[simp] theorem tS30 : TT.size 30 = some 1 := rfl
@[simp] theorem tB30 : TT.bytes 30 = some 8 := rfl
@[simp] theorem tZ30 : TT.zero 30 = some (.i .i64 0) := rfl
@[simp] theorem tS31 : TT.size 31 = some 1 := rfl
@[simp] theorem tB31 : TT.bytes 31 = some 8 := rfl
@[simp] theorem tZ31 : TT.zero 31 = some (.nilf) := rfl
@[simp] theorem tS32 : TT.size 32 = some 1 := rfl
@[simp] theorem tB32 : TT.bytes 32 = some 8 := rfl
@[simp] theorem tZ32 : TT.zero 32 = some (.nilf) := rfl
@[simp] theorem tS33 : TT.size 33 = some 1 := rfl
@[simp] theorem tB33 : TT.bytes 33 = some 8 := rfl
@[simp] theorem tZ33 : TT.zero 33 = some (.nilf) := rfl
@[simp] theorem tS34 : TT.size 34 = some 1 := rfl
@[simp] theorem tB34 : TT.bytes 34 = some 8 := rfl
@[simp] theorem tZ34 : TT.zero 34 = some (.nilf) := rfl
@[simp] theorem tS35 : TT.size 35 = some 1 := rfl
@[simp] theorem tB35 : TT.bytes 35 = some 0 := rfl
@[simp] theorem tS36 : TT.size 36 = some 1 := rfl
@[simp] theorem tB36 : TT.bytes 36 = some 8 := rfl
@[simp] theorem tZ36 : TT.zero 36 = some (.nilf) := rfl
@[simp] theorem tS37 : TT.size 37 = some 1 := rfl
@[simp] theorem tB37 : TT.bytes 37 = some 0 := rfl
@[simp] theorem tS38 : TT.size 38 = some 1 := rfl
@[simp] theorem tB38 : TT.bytes 38 = some 8 := rfl
@[simp] theorem tZ38 : TT.zero 38 = some (.nilf) := rfl
@[simp] theorem tS39 : TT.size 39 = some 1 := rfl
@[simp] theorem tB39 : TT.bytes 39 = some 24 := rfl
@[simp] theorem tZ39 : TT.zero 39 = some (.nils) := rfl
@[simp] theorem tS40 : TT.size 40 = some 1 := rfl
@[simp] theorem tB40 : TT.bytes 40 = some 8 := rfl
@[simp] theorem tZ40 : TT.zero 40 = some (.nilf) := rfl
@[simp] theorem tS41 : TT.size 41 = some 1 := rfl
@[simp] theorem tB41 : TT.bytes 41 = some 8 := rfl
@[simp] theorem tZ41 : TT.zero 41 = some (.nilf) := rfl
@[simp] theorem tS42 : TT.size 42 = some 1 := rfl
@[simp] theorem tB42 : TT.bytes 42 = some 8 := rfl
@[simp] theorem tZ42 : TT.zero 42 = some (.nilp) := rfl
@[simp] theorem tS43 : TT.size 43 = some 1 := rfl
@[simp] theorem tB43 : TT.bytes 43 = some 8 := rfl
@[simp] theorem tZ43 : TT.zero 43 = some (.nilf) := rfl
@[simp] theorem tS44 : TT.size 44 = some 1 := rfl
@[simp] theorem tB44 : TT.bytes 44 = some 24 := rfl
@[simp] theorem tZ44 : TT.zero 44 = some (.nils) := rfl
@[simp] theorem tS45 : TT.size 45 = some 1 := rfl
@[simp] theorem tB45 : TT.bytes 45 = some 8 := rfl
@[simp] theorem tZ45 : TT.zero 45 = some (.nilf) := rfl
@[simp] theorem tS46 : TT.size 46 = some 5 := rfl
@[simp] theorem tB46 : TT.bytes 46 = some 64 := rfl
@[simp] theorem tS47 : TT.size 47 = some 5 := rfl
@[simp] theorem tB47 : TT.bytes 47 = some 64 := rfl
@[simp] theorem tS48 : TT.size 48 = some 285 := rfl
@[simp] theorem tB48 : TT.bytes 48 = some 3648 := rfl
@[simp] theorem tS49 : TT.size 49 = some 1 := rfl
@[simp] theorem tB49 : TT.bytes 49 = some 8 := rfl
@[simp] theorem tZ49 : TT.zero 49 = some (.nilf) := rfl
@[simp] theorem tS50 : TT.size 50 = some 285 := rfl
@[simp] theorem tB50 : TT.bytes 50 = some 3648 := rfl
@[simp] theorem tS51 : TT.size 51 = some 285 := rfl
@[simp] theorem tB51 : TT.bytes 51 = some 3648 := rfl
@[simp] theorem tS52 : TT.size 52 = some 1 := rfl
@[simp] theorem tB52 : TT.bytes 52 = some 8 := rfl
@[simp] theorem tZ52 : TT.zero 52 = some (.nilf) := rfl
@[simp] theorem tS53 : TT.size 53 = some 1 := rfl
@[simp] theorem tB53 : TT.bytes 53 = some 8 := rfl
@[simp] theorem tZ53 : TT.zero 53 = some (.nilf) := rfl
@[simp] theorem tS54 : TT.size 54 = some 1 := rfl
@[simp] theorem tB54 : TT.bytes 54 = some 8 := rfl
@[simp] theorem tZ54 : TT.zero 54 = some (.nilf) := rfl
@[simp] theorem tS55 : TT.size 55 = some 1 := rfl
@[simp] theorem tB55 : TT.bytes 55 = some 8 := rfl
@[simp] theorem tZ55 : TT.zero 55 = some (.nilf) := rfl
@[simp] theorem tS56 : TT.size 56 = some 1 := rfl
@[simp] theorem tB56 : TT.bytes 56 = some 8 := rfl
@[simp] theorem tZ56 : TT.zero 56 = some (.nilf) := rfl
@[simp] theorem tS57 : TT.size 57 = some 1 := rfl
@[simp] theorem tB57 : TT.bytes 57 = some 8 := rfl
@[simp] theorem tZ57 : TT.zero 57 = some (.nilp) := rfl
@[simp] theorem tS58 : TT.size 58 = some 1 := rfl
@[simp] theorem tB58 : TT.bytes 58 = some 24 := rfl
@[simp] theorem tZ58 : TT.zero 58 = some (.nils) := rfl
@[simp] theorem tS59 : TT.size 59 = some 1 := rfl
@[simp] theorem tB59 : TT.bytes 59 = some 8 := rfl
@[simp] theorem tZ59 : TT.zero 59 = some (.nilf) := rfl
@[simp] theorem tS60 : TT.size 60 = some 1 := rfl
@[simp] theorem tB60 : TT.bytes 60 = some 8 := rfl
@[simp] theorem tZ60 : TT.zero 60 = some (.nilf) := rfl
@[simp] theorem tS61 : TT.size 61 = some 1 := rfl
@[simp] theorem tB61 : TT.bytes 61 = some 8 := rfl
@[simp] theorem tZ61 : TT.zero 61 = some (.nilf) := rfl
@[simp] theorem tS62 : TT.size 62 = some 1 := rfl
@[simp] theorem tB62 : TT.bytes 62 = some 8 := rfl
@[simp] theorem tZ62 : TT.zero 62 = some (.nilf) := rfl
@[simp] theorem tS63 : TT.size 63 = some 1 := rfl
@[simp] theorem tB63 : TT.bytes 63 = some 8 := rfl
@[simp] theorem tZ63 : TT.zero 63 = some (.nilf) := rfl
@[simp] theorem tS64 : TT.size 64 = some 1 := rfl
@[simp] theorem tB64 : TT.bytes 64 = some 8 := rfl
@[simp] theorem tZ64 : TT.zero 64 = some (.nilf) := rfl
@[simp] theorem tS65 : TT.size 65 = some 1 := rfl
@[simp] theorem tB65 : TT.bytes 65 = some 8 := rfl
@[simp] theorem tZ65 : TT.zero 65 = some (.nilf) := rfl
@[simp] theorem tS66 : TT.size 66 = some 1 := rfl
@[simp] theorem tB66 : TT.bytes 66 = some 8 := rfl
@[simp] theorem tZ66 : TT.zero 66 = some (.nilf) := rfl
@[simp] theorem tS67 : TT.size 67 = some 1 := rfl
@[simp] theorem tB67 : TT.bytes 67 = some 8 := rfl
@[simp] theorem tZ67 : TT.zero 67 = some (.nilp) := rfl
@[simp] theorem tS68 : TT.size 68 = some 1 := rfl
@[simp] theorem tB68 : TT.bytes 68 = some 8 := rfl
@[simp] theorem tZ68 : TT.zero 68 = some (.nilp) := rfl
@[simp] theorem tS69 : TT.size 69 = some 1 := rfl
@[simp] theorem tB69 : TT.bytes 69 = some 24 := rfl
@[simp] theorem tZ69 : TT.zero 69 = some (.nils) := rfl
@[simp] theorem tS70 : TT.size 70 = some 2 := rfl
@[simp] theorem tB70 : TT.bytes 70 = some 32 := rfl
@[simp] theorem tZ70 : TT.zero 70 = some (.agg [.nilp, .nils]) := rfl
@[simp] theorem tS71 : TT.size 71 = some 2 := rfl
@[simp] theorem tB71 : TT.bytes 71 = some 32 := rfl
@[simp] theorem tZ71 : TT.zero 71 = some (.agg [.nilp, .nils]) := rfl
@[simp] theorem tS72 : TT.size 72 = some 287 := rfl
@[simp] theorem tB72 : TT.bytes 72 = some 3680 := rfl
@[simp] theorem tS73 : TT.size 73 = some 287 := rfl
@[simp] theorem tB73 : TT.bytes 73 = some 3680 := rfl
@[simp] theorem tS74 : TT.size 74 = some 1 := rfl
@[simp] theorem tB74 : TT.bytes 74 = some 8 := rfl
@[simp] theorem tZ74 : TT.zero 74 = some (.nilf) := rfl
@[simp] theorem tS75 : TT.size 75 = some 1 := rfl
@[simp] theorem tB75 : TT.bytes 75 = some 8 := rfl
@[simp] theorem tZ75 : TT.zero 75 = some (.nilf) := rfl
@[simp] theorem tS76 : TT.size 76 = some 1 := rfl
@[simp] theorem tB76 : TT.bytes 76 = some 8 := rfl
@[simp] theorem tZ76 : TT.zero 76 = some (.nilf) := rfl
@[simp] theorem tS77 : TT.size 77 = some 1 := rfl
@[simp] theorem tB77 : TT.bytes 77 = some 8 := rfl
@[simp] theorem tZ77 : TT.zero 77 = some (.nilf) := rfl
@[simp] theorem tS78 : TT.size 78 = some 256 := rfl
@[simp] theorem tB78 : TT.bytes 78 = some 256 := rfl
@[simp] theorem tS79 : TT.size 79 = some 1 := rfl
@[simp] theorem tB79 : TT.bytes 79 = some 8 := rfl
@[simp] theorem tZ79 : TT.zero 79 = some (.nilf) := rfl
@[simp] theorem tS80 : TT.size 80 = some 1 := rfl
@[simp] theorem tB80 : TT.bytes 80 = some 8 := rfl
@[simp] theorem tZ80 : TT.zero 80 = some (.nilf) := rfl
@[simp] theorem tS81 : TT.size 81 = some 1 := rfl
@[simp] theorem tB81 : TT.bytes 81 = some 8 := rfl
@[simp] theorem tZ81 : TT.zero 81 = some (.nilf) := rfl
@[simp] theorem tS82 : TT.size 82 = some 1 := rfl
@[simp] theorem tB82 : TT.bytes 82 = some 8 := rfl
@[simp] theorem tZ82 : TT.zero 82 = some (.nilf) := rfl
@[simp] theorem tS83 : TT.size 83 = some 1 := rfl
@[simp] theorem tB83 : TT.bytes 83 = some 8 := rfl
@[simp] theorem tZ83 : TT.zero 83 = some (.nilf) := rfl
@[simp] theorem tS84 : TT.size 84 = some 2 := rfl
@[simp] theorem tB84 : TT.bytes 84 = some 2 := rfl
@[simp] theorem tZ84 : TT.zero 84 = some (.agg [.i .u8 0, .i .u8 0]) := rfl
@[simp] theorem tS85 : TT.size 85 = some 2 := rfl
@[simp] theorem tB85 : TT.bytes 85 = some 2 := rfl
@[simp] theorem tZ85 : TT.zero 85 = some (.agg [.i .u8 0, .i .u8 0]) := rfl
@[simp] theorem tS86 : TT.size 86 = some 32 := rfl
@[simp] theorem tB86 : TT.bytes 86 = some 32 := rfl
@[simp] theorem tS87 : TT.size 87 = some 1 := rfl
@[simp] theorem tB87 : TT.bytes 87 = some 8 := rfl
@[simp] theorem tZ87 : TT.zero 87 = some (.i .u64 0) := rfl
@[simp] theorem tS88 : TT.size 88 = some 1 := rfl
@[simp] theorem tB88 : TT.bytes 88 = some 0 := rfl
@[simp] theorem tS89 : TT.size 89 = some 1 := rfl
@[simp] theorem tB89 : TT.bytes 89 = some 8 := rfl
@[simp] theorem tZ89 : TT.zero 89 = some (.nilf) := rfl
@[simp] theorem tS90 : TT.size 90 = some 1 := rfl
@[simp] theorem tB90 : TT.bytes 90 = some 8 := rfl
@[simp] theorem tZ90 : TT.zero 90 = some (.nilf) := rfl
@[simp] theorem tS91 : TT.size 91 = some 1 := rfl
@[simp] theorem tB91 : TT.bytes 91 = some 8 := rfl
@[simp] theorem tZ91 : TT.zero 91 = some (.nilp) := rfl
@[simp] theorem tS92 : TT.size 92 = some 1 := rfl
@[simp] theorem tB92 : TT.bytes 92 = some 8 := rfl
@[simp] theorem tZ92 : TT.zero 92 = some (.nilf) := rfl
@[simp] theorem tS93 : TT.size 93 = some 1 := rfl
@[simp] theorem tB93 : TT.bytes 93 = some 16 := rfl
@[simp] theorem tZ93 : TT.zero 93 = some (.nili) := rfl
@[simp] theorem tS94 : TT.size 94 = some 1 := rfl
@[simp] theorem tB94 : TT.bytes 94 = some 16 := rfl
@[simp] theorem tZ94 : TT.zero 94 = some (.nili) := rfl
@[simp] theorem tS95 : TT.size 95 = some 1 := rfl
@[simp] theorem tB95 : TT.bytes 95 = some 0 := rfl
@[simp] theorem tS96 : TT.size 96 = some 1 := rfl
@[simp] theorem tB96 : TT.bytes 96 = some 8 := rfl
@[simp] theorem tZ96 : TT.zero 96 = some (.nilf) := rfl
@[simp] theorem tS97 : TT.size 97 = some 1 := rfl
@[simp] theorem tB97 : TT.bytes 97 = some 8 := rfl
@[simp] theorem tZ97 : TT.zero 97 = some (.nilf) := rfl
@[simp] theorem tS98 : TT.size 98 = some 1 := rfl
@[simp] theorem tB98 : TT.bytes 98 = some 8 := rfl
@[simp] theorem tZ98 : TT.zero 98 = some (.nilp) := rfl
@[simp] theorem tS99 : TT.size 99 = some 1 := rfl
@[simp] theorem tB99 : TT.bytes 99 = some 8 := rfl
@[simp] theorem tZ99 : TT.zero 99 = some (.nilf) := rfl
@[simp] theorem tS100 : TT.size 100 = some 1 := rfl
@[simp] theorem tB100 : TT.bytes 100 = some 24 := rfl
@[simp] theorem tZ100 : TT.zero 100 = some (.nils) := rfl
@[simp] theorem tS101 : TT.size 101 = some 2 := rfl
@[simp] theorem tB101 : TT.bytes 101 = some 16 := rfl
@[simp] theorem tZ101 : TT.zero 101 = some (.agg [.i .i64 0, .i .i64 0]) := rfl
@[simp] theorem tS102 : TT.size 102 = some 2 := rfl
@[simp] theorem tB102 : TT.bytes 102 = some 16 := rfl
@[simp] theorem tZ102 : TT.zero 102 = some (.agg [.i .i64 0, .i .i64 0]) := rfl
@[simp] theorem tS103 : TT.size 103 = some 1 := rfl
@[simp] theorem tB103 : TT.bytes 103 = some 4 := rfl
@[simp] theorem tZ103 : TT.zero 103 = some (.i .u32 0) := rfl
@[simp] theorem tS104 : TT.size 104 = some 1 := rfl
@[simp] theorem tB104 : TT.bytes 104 = some 8 := rfl
@[simp] theorem tZ104 : TT.zero 104 = some (.nilf) := rfl
@[simp] theorem tS105 : TT.size 105 = some 1 := rfl
@[simp] theorem tB105 : TT.bytes 105 = some 8 := rfl
@[simp] theorem tZ105 : TT.zero 105 = some (.nilp) := rfl
@[simp] theorem tS106 : TT.size 106 = some 1 := rfl
@[simp] theorem tB106 : TT.bytes 106 = some 8 := rfl
@[simp] theorem tZ106 : TT.zero 106 = some (.nilf) := rfl
@[simp] theorem tS107 : TT.size 107 = some 1 := rfl
@[simp] theorem tB107 : TT.bytes 107 = some 8 := rfl
@[simp] theorem tZ107 : TT.zero 107 = some (.nilm) := rfl
@[simp] theorem tS108 : TT.size 108 = some 1 := rfl
@[simp] theorem tB108 : TT.bytes 108 = some 8 := rfl
@[simp] theorem tZ108 : TT.zero 108 = some (.nilf) := rfl
@[simp] theorem tS109 : TT.size 109 = some 1 := rfl
@[simp] theorem tB109 : TT.bytes 109 = some 8 := rfl
@[simp] theorem tZ109 : TT.zero 109 = some (.nilf) := rfl
@[simp] theorem tS110 : TT.size 110 = some 1 := rfl
@[simp] theorem tB110 : TT.bytes 110 = some 8 := rfl
@[simp] theorem tZ110 : TT.zero 110 = some (.nilf) := rfl
@[simp] theorem tS111 : TT.size 111 = some 1 := rfl
@[simp] theorem tB111 : TT.bytes 111 = some 8 := rfl
@[simp] theorem tZ111 : TT.zero 111 = some (.i .u64 0) := rfl
@[simp] theorem tS112 : TT.size 112 = some 1 := rfl
@[simp] theorem tB112 : TT.bytes 112 = some 8 := rfl
@[simp] theorem tZ112 : TT.zero 112 = some (.nilf) := rfl
@[simp] theorem tS113 : TT.size 113 = some 1 := rfl
@[simp] theorem tB113 : TT.bytes 113 = some 8 := rfl
@[simp] theorem tZ113 : TT.zero 113 = some (.nilf) := rfl
@[simp] theorem tS114 : TT.size 114 = some 1 := rfl
@[simp] theorem tB114 : TT.bytes 114 = some 8 := rfl
@[simp] theorem tZ114 : TT.zero 114 = some (.nilf) := rfl
@[simp] theorem tS115 : TT.size 115 = some 1 := rfl
@[simp] theorem tB115 : TT.bytes 115 = some 8 := rfl
@[simp] theorem tZ115 : TT.zero 115 = some (.nilf) := rfl
@[simp] theorem tS116 : TT.size 116 = some 1 := rfl
@[simp] theorem tB116 : TT.bytes 116 = some 24 := rfl
@[simp] theorem tZ116 : TT.zero 116 = some (.nils) := rfl
@[simp] theorem tS117 : TT.size 117 = some 1 := rfl
@[simp] theorem tB117 : TT.bytes 117 = some 24 := rfl
@[simp] theorem tZ117 : TT.zero 117 = some (.nils) := rfl
@[simp] theorem tS118 : TT.size 118 = some 3 := rfl
@[simp] theorem tB118 : TT.bytes 118 = some 56 := rfl
@[simp] theorem tZ118 : TT.zero 118 = some (.agg [.nils, .nils, .i .i64 0]) := rfl
@[simp] theorem tS119 : TT.size 119 = some 3 := rfl
@[simp] theorem tB119 : TT.bytes 119 = some 56 := rfl
@[simp] theorem tZ119 : TT.zero 119 = some (.agg [.nils, .nils, .i .i64 0]) := rfl
@[simp] theorem tS120 : TT.size 120 = some 1 := rfl
@[simp] theorem tB120 : TT.bytes 120 = some 2 := rfl
@[simp] theorem tZ120 : TT.zero 120 = some (.i .u16 0) := rfl
@[simp] theorem tS121 : TT.size 121 = some 3 := rfl
@[simp] theorem tB121 : TT.bytes 121 = some 6 := rfl
@[simp] theorem tZ121 : TT.zero 121 = some (.agg [.i .u16 0, .i .u16 0, .i .u16 0]) := rfl
@[simp] theorem tS122 : TT.size 122 = some 3 := rfl
@[simp] theorem tB122 : TT.bytes 122 = some 6 := rfl
@[simp] theorem tZ122 : TT.zero 122 = some (.agg [.i .u16 0, .i .u16 0, .i .u16 0]) := rfl
@[simp] theorem tS123 : TT.size 123 = some 1 := rfl
@[simp] theorem tB123 : TT.bytes 123 = some 8 := rfl
@[simp] theorem tZ123 : TT.zero 123 = some (.nilf) := rfl
@[simp] theorem tS124 : TT.size 124 = some 3 := rfl
@[simp] theorem tB124 : TT.bytes 124 = some 12 := rfl
@[simp] theorem tZ124 : TT.zero 124 = some (.agg [.i .u32 0, .i .u32 0, .i .u32 0]) := rfl
@[simp] theorem tS125 : TT.size 125 = some 3 := rfl
@[simp] theorem tB125 : TT.bytes 125 = some 12 := rfl
@[simp] theorem tZ125 : TT.zero 125 = some (.agg [.i .u32 0, .i .u32 0, .i .u32 0]) := rfl
@[simp] theorem tS126 : TT.size 126 = some 1 := rfl
@[simp] theorem tB126 : TT.bytes 126 = some 8 := rfl
@[simp] theorem tZ126 : TT.zero 126 = some (.nilf) := rfl
@[simp] theorem tS127 : TT.size 127 = some 1 := rfl
@[simp] theorem tB127 : TT.bytes 127 = some 8 := rfl
@[simp] theorem tZ127 : TT.zero 127 = some (.nilf) := rfl
@[simp] theorem tS128 : TT.size 128 = some 1 := rfl
@[simp] theorem tB128 : TT.bytes 128 = some 8 := rfl
@[simp] theorem tZ128 : TT.zero 128 = some (.nilf) := rfl
@[simp] theorem tS129 : TT.size 129 = some 1 := rfl
@[simp] theorem tB129 : TT.bytes 129 = some 8 := rfl
@[simp] theorem tZ129 : TT.zero 129 = some (.nilf) := rfl
@[simp] theorem tS130 : TT.size 130 = some 1 := rfl
@[simp] theorem tB130 : TT.bytes 130 = some 8 := rfl
@[simp] theorem tZ130 : TT.zero 130 = some (.nilf) := rfl
@[simp] theorem tS131 : TT.size 131 = some 256 := rfl
@[simp] theorem tB131 : TT.bytes 131 = some 256 := rfl
@[simp] theorem tS132 : TT.size 132 = some 256 := rfl
@[simp] theorem tB132 : TT.bytes 132 = some 256 := rfl
@[simp] theorem tB133 : TT.bytes 133 = some 0 := rfl
@[simp] theorem tS134 : TT.size 134 = some 1 := rfl
@[simp] theorem tB134 : TT.bytes 134 = some 8 := rfl
@[simp] theorem tZ134 : TT.zero 134 = some (.nilf) := rfl
@[simp] theorem tS135 : TT.size 135 = some 1 := rfl
@[simp] theorem tB135 : TT.bytes 135 = some 8 := rfl
@[simp] theorem tZ135 : TT.zero 135 = some (.nilf) := rfl
@[simp] theorem tS136 : TT.size 136 = some 1 := rfl
@[simp] theorem tB136 : TT.bytes 136 = some 8 := rfl
@[simp] theorem tZ136 : TT.zero 136 = some (.nilp) := rfl
@[simp] theorem tS137 : TT.size 137 = some 1 := rfl
@[simp] theorem tB137 : TT.bytes 137 = some 8 := rfl
@[simp] theorem tZ137 : TT.zero 137 = some (.nilp) := rfl
@[simp] theorem tS138 : TT.size 138 = some 1 := rfl
@[simp] theorem tB138 : TT.bytes 138 = some 8 := rfl
@[simp] theorem tZ138 : TT.zero 138 = some (.nilf) := rfl
@[simp] theorem tS139 : TT.size 139 = some 1 := rfl
@[simp] theorem tB139 : TT.bytes 139 = some 8 := rfl
@[simp] theorem tZ139 : TT.zero 139 = some (.nilp) := rfl
@[simp] theorem tS140 : TT.size 140 = some 1 := rfl
@[simp] theorem tB140 : TT.bytes 140 = some 8 := rfl
@[simp] theorem tZ140 : TT.zero 140 = some (.nilp) := rfl
@[simp] theorem tS141 : TT.size 141 = some 1 := rfl
@[simp] theorem tB141 : TT.bytes 141 = some 0 := rfl
@[simp] theorem tS142 : TT.size 142 = some 1 := rfl
@[simp] theorem tB142 : TT.bytes 142 = some 8 := rfl
@[simp] theorem tZ142 : TT.zero 142 = some (.nilf) := rfl
@[simp] theorem tS143 : TT.size 143 = some 1 := rfl
@[simp] theorem tB143 : TT.bytes 143 = some 8 := rfl
@[simp] theorem tZ143 : TT.zero 143 = some (.nilf) := rfl
@[simp] theorem tS144 : TT.size 144 = some 1 := rfl
@[simp] theorem tB144 : TT.bytes 144 = some 8 := rfl
@[simp] theorem tZ144 : TT.zero 144 = some (.nilf) := rfl
@[simp] theorem tS145 : TT.size 145 = some 1 := rfl
@[simp] theorem tB145 : TT.bytes 145 = some 8 := rfl
@[simp] theorem tZ145 : TT.zero 145 = some (.nilf) := rfl
@[simp] theorem tS146 : TT.size 146 = some 1 := rfl
@[simp] theorem tB146 : TT.bytes 146 = some 8 := rfl
@[simp] theorem tZ146 : TT.zero 146 = some (.nilf) := rfl
@[simp] theorem tS147 : TT.size 147 = some 1 := rfl
@[simp] theorem tB147 : TT.bytes 147 = some 0 := rfl
@[simp] theorem tS148 : TT.size 148 = some 1 := rfl
@[simp] theorem tB148 : TT.bytes 148 = some 8 := rfl
@[simp] theorem tZ148 : TT.zero 148 = some (.nilf) := rfl
@[simp] theorem tS149 : TT.size 149 = some 4 := rfl
@[simp] theorem tB149 : TT.bytes 149 = some 40 := rfl
@[simp] theorem tZ149 : TT.zero 149 = some (.agg [.nilp, .nilp, .nilp, .s []]) := rfl
@[simp] theorem tS150 : TT.size 150 = some 4 := rfl
@[simp] theorem tB150 : TT.bytes 150 = some 40 := rfl
@[simp] theorem tZ150 : TT.zero 150 = some (.agg [.nilp, .nilp, .nilp, .s []]) := rfl
@[simp] theorem tS151 : TT.size 151 = some 0 := rfl
@[simp] theorem tB151 : TT.bytes 151 = some 0 := rfl
@[simp] theorem tZ151 : TT.zero 151 = some (.agg []) := rfl
@[simp] theorem tS152 : TT.size 152 = some 0 := rfl
@[simp] theorem tB152 : TT.bytes 152 = some 0 := rfl
@[simp] theorem tZ152 : TT.zero 152 = some (.agg []) := rfl
@[simp] theorem tS153 : TT.size 153 = some 0 := rfl
@[simp] theorem tB153 : TT.bytes 153 = some 0 := rfl
@[simp] theorem tZ153 : TT.zero 153 = some (.agg []) := rfl
@[simp] theorem tS154 : TT.size 154 = some 1 := rfl
@[simp] theorem tB154 : TT.bytes 154 = some 8 := rfl
@[simp] theorem tZ154 : TT.zero 154 = some (.nilf) := rfl
@[simp] theorem tS155 : TT.size 155 = some 1 := rfl
@[simp] theorem tB155 : TT.bytes 155 = some 1 := rfl
@[simp] theorem tZ155 : TT.zero 155 = some (.i .u8 0) := rfl
@[simp] theorem tS156 : TT.size 156 = some 1 := rfl
@[simp] theorem tB156 : TT.bytes 156 = some 1 := rfl
@[simp] theorem tZ156 : TT.zero 156 = some (.i .u8 0) := rfl
@[simp] theorem tS157 : TT.size 157 = some 1 := rfl
@[simp] theorem tB157 : TT.bytes 157 = some 8 := rfl
@[simp] theorem tZ157 : TT.zero 157 = some (.nilf) := rfl
@[simp] theorem tS158 : TT.size 158 = some 1 := rfl
@[simp] theorem tB158 : TT.bytes 158 = some 4 := rfl
@[simp] theorem tZ158 : TT.zero 158 = some (.i .i32 0) := rfl
@[simp] theorem tS159 : TT.size 159 = some 1 := rfl
@[simp] theorem tB159 : TT.bytes 159 = some 4 := rfl
@[simp] theorem tZ159 : TT.zero 159 = some (.i .i32 0) := rfl
@[simp] theorem tS160 : TT.size 160 = some 11 := rfl
@[simp] theorem tB160 : TT.bytes 160 = some 48 := rfl
@[simp] theorem tS161 : TT.size 161 = some 11 := rfl
@[simp] theorem tB161 : TT.bytes 161 = some 48 := rfl
end Go.Ev
