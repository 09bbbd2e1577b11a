/- Each function's ghost code is the program's. Conditions: none. -/
import Derived.Test.YtjobjooccgledaaGreatDoorA4
import Derived.Test.YtjobjooccgledaaGreatDoorGF
import Derived.KernelRfl
import Derived.Test.YtjobjooccgledaaGreatDoorProg
namespace Go.Proofs.YtjobjooccgledaaGreatDoor.Ghost
open Go
theorem Zt.chk:Xe Tryz.prog 3 Zt.fn=true:=by kernel_rfl
theorem Xy.chk:Xe Tryz.prog 4 Xy.fn=true:=by kernel_rfl
theorem X3.chk:Xe Tryz.prog 5 X3.fn=true:=by kernel_rfl
theorem Zg.chk:Xe Tryz.prog 6 Zg.fn=true:=by kernel_rfl
theorem Ye.chk:Xe Tryz.prog 7 Ye.fn=true:=by kernel_rfl
theorem X6.chk:Xe Tryz.prog 8 X6.fn=true:=by kernel_rfl
theorem Js.chk:Xe Tryz.prog 9 Js.fn=true:=by kernel_rfl
theorem Z3.chk:Xe Tryz.prog 10 Z3.fn=true:=by kernel_rfl
theorem Zn.chk:Xe Tryz.prog 11 Zn.fn=true:=by kernel_rfl
theorem Z1.chk:Xe Tryz.prog 13 Z1.fn=true:=by kernel_rfl
theorem Gn.chk:Xe Tryz.prog 14 Gn.fn=true:=by kernel_rfl
theorem J1.chk:Xe Tryz.prog 15 J1.fn=true:=by kernel_rfl
theorem Qc.chk:Xe Tryz.prog 16 Qc.fn=true:=by kernel_rfl
theorem Ha.chk:Xe Tryz.prog 17 Ha.fn=true:=by kernel_rfl
theorem Zc.chk:Xe Tryz.prog 18 Zc.fn=true:=by kernel_rfl
theorem Z9.chk:Xe Tryz.prog 19 Z9.fn=true:=by kernel_rfl
theorem Yd.chk:Xe Tryz.prog 20 Yd.fn=true:=by kernel_rfl
theorem Z2.chk:Xe Tryz.prog 21 Z2.fn=true:=by kernel_rfl
theorem Z4.chk:Xe Tryz.prog 22 Z4.fn=true:=by kernel_rfl
theorem Yf.chk:Xe Tryz.prog 23 Yf.fn=true:=by kernel_rfl
theorem Zf.chk:Xe Tryz.prog 24 Zf.fn=true:=by kernel_rfl
theorem Zh.chk:Xe Tryz.prog 25 Zh.fn=true:=by kernel_rfl
theorem K6.chk:Xe Tryz.prog 26 K6.fn=true:=by kernel_rfl
theorem Zx.chk:Xe Tryz.prog 28 Zx.fn=true:=by kernel_rfl
theorem Zy.chk:Xe Tryz.prog 29 Zy.fn=true:=by kernel_rfl
theorem Jh.chk:Xe Tryz.prog 30 Jh.fn=true:=by kernel_rfl
theorem He.chk:Xe Tryz.prog 31 He.fn=true:=by kernel_rfl
theorem Hf.chk:Xe Tryz.prog 32 Hf.fn=true:=by kernel_rfl
theorem Qg.chk:Xe Tryz.prog 33 Qg.fn=true:=by kernel_rfl
theorem Gm.chk:Xe Tryz.prog 34 Gm.fn=true:=by kernel_rfl
theorem Ki.chk:Xe Tryz.prog 35 Ki.fn=true:=by kernel_rfl
theorem H4.chk:Xe Tryz.prog 36 H4.fn=true:=by kernel_rfl
theorem P3.chk:Xe Tryz.prog 37 P3.fn=true:=by kernel_rfl
theorem Qk.chk:Xe Tryz.prog 38 Qk.fn=true:=by kernel_rfl
theorem Kf.chk:Xe Tryz.prog 39 Kf.fn=true:=by kernel_rfl
theorem Ql.chk:Xe Tryz.prog 40 Ql.fn=true:=by kernel_rfl
theorem Kg.chk:Xe Tryz.prog 41 Kg.fn=true:=by kernel_rfl
theorem P4.chk:Xe Tryz.prog 42 P4.fn=true:=by kernel_rfl
theorem Qm.chk:Xe Tryz.prog 43 Qm.fn=true:=by kernel_rfl
theorem Hg.chk:Xe Tryz.prog 44 Hg.fn=true:=by kernel_rfl
theorem Qn.chk:Xe Tryz.prog 45 Qn.fn=true:=by kernel_rfl
theorem Kd.chk:Xe Tryz.prog 46 Kd.fn=true:=by kernel_rfl
theorem Qo.chk:Xe Tryz.prog 47 Qo.fn=true:=by kernel_rfl
theorem V9.chk:Xe Tryz.prog 48 V9.fn=true:=by kernel_rfl
theorem Qp.chk:Xe Tryz.prog 49 Qp.fn=true:=by kernel_rfl
theorem Vj.chk:Xe Tryz.prog 50 Vj.fn=true:=by kernel_rfl
theorem Qq.chk:Xe Tryz.prog 51 Qq.fn=true:=by kernel_rfl
theorem Vk.chk:Xe Tryz.prog 52 Vk.fn=true:=by kernel_rfl
theorem Z7.chk:Xe Tryz.prog 53 Z7.fn=true:=by kernel_rfl
theorem T9.chk:Xe Tryz.prog 54 T9.fn=true:=by kernel_rfl
theorem Vl.chk:Xe Tryz.prog 55 Vl.fn=true:=by kernel_rfl
theorem Ke.chk:Xe Tryz.prog 56 Ke.fn=true:=by kernel_rfl
theorem Kx.chk:Xe Tryz.prog 59 Kx.fn=true:=by kernel_rfl
theorem Ut.chk:Xe Tryz.prog 60 Ut.fn=true:=by kernel_rfl
theorem Zo.chk:Xe Tryz.prog 61 Zo.fn=true:=by kernel_rfl
theorem Xb.chk:Xe Tryz.prog 62 Xb.fn=true:=by kernel_rfl
theorem Ka.chk:Xe Tryz.prog 63 Ka.fn=true:=by kernel_rfl
theorem Qr.chk:Xe Tryz.prog 64 Qr.fn=true:=by kernel_rfl
theorem Yh.chk:Xe Tryz.prog 65 Yh.fn=true:=by kernel_rfl
theorem V1.chk:Xe Tryz.prog 66 V1.fn=true:=by kernel_rfl
theorem J8.chk:Xe Tryz.prog 67 J8.fn=true:=by kernel_rfl
theorem Jp.chk:Xe Tryz.prog 68 Jp.fn=true:=by kernel_rfl
theorem Qs.chk:Xe Tryz.prog 69 Qs.fn=true:=by kernel_rfl
theorem Q6.chk:Xe Tryz.prog 70 Q6.fn=true:=by kernel_rfl
theorem Vt.chk:Xe Tryz.prog 71 Vt.fn=true:=by kernel_rfl
theorem Y1.chk:Xe Tryz.prog 72 Y1.fn=true:=by kernel_rfl
theorem Yy.chk:Xe Tryz.prog 73 Yy.fn=true:=by kernel_rfl
theorem Q2.chk:Xe Tryz.prog 74 Q2.fn=true:=by kernel_rfl
theorem Jk.chk:Xe Tryz.prog 75 Jk.fn=true:=by kernel_rfl
theorem Jz.chk:Xe Tryz.prog 76 Jz.fn=true:=by kernel_rfl
theorem Jl.chk:Xe Tryz.prog 77 Jl.fn=true:=by kernel_rfl
theorem Jm.chk:Xe Tryz.prog 78 Jm.fn=true:=by kernel_rfl
theorem Jn.chk:Xe Tryz.prog 80 Jn.fn=true:=by kernel_rfl
theorem Jg.chk:Xe Tryz.prog 81 Jg.fn=true:=by kernel_rfl
theorem Xq.chk:Xe Tryz.prog 82 Xq.fn=true:=by kernel_rfl
theorem Jo.chk:Xe Tryz.prog 83 Jo.fn=true:=by kernel_rfl
theorem Q8.chk:Xe Tryz.prog 84 Q8.fn=true:=by kernel_rfl
theorem K8.chk:Xe Tryz.prog 85 K8.fn=true:=by kernel_rfl
theorem Yk.chk:Xe Tryz.prog 86 Yk.fn=true:=by kernel_rfl
theorem Qt.chk:Xe Tryz.prog 87 Qt.fn=true:=by kernel_rfl
theorem Qu.chk:Xe Tryz.prog 88 Qu.fn=true:=by kernel_rfl
theorem Qv.chk:Xe Tryz.prog 89 Qv.fn=true:=by kernel_rfl
theorem Qw.chk:Xe Tryz.prog 90 Qw.fn=true:=by kernel_rfl
theorem Ky.chk:Xe Tryz.prog 91 Ky.fn=true:=by kernel_rfl
theorem Y9.chk:Xe Tryz.prog 92 Y9.fn=true:=by kernel_rfl
theorem Ys.chk:Xe Tryz.prog 93 Ys.fn=true:=by kernel_rfl
theorem Yw.chk:Xe Tryz.prog 95 Yw.fn=true:=by kernel_rfl
theorem Ym.chk:Xe Tryz.prog 96 Ym.fn=true:=by kernel_rfl
theorem Y5.chk:Xe Tryz.prog 97 Y5.fn=true:=by kernel_rfl
theorem Xt.chk:Xe Tryz.prog 98 Xt.fn=true:=by kernel_rfl
theorem Kb.chk:Xe Tryz.prog 99 Kb.fn=true:=by kernel_rfl
theorem Y4.chk:Xe Tryz.prog 100 Y4.fn=true:=by kernel_rfl
theorem Xd.chk:Xe Tryz.prog 101 Xd.fn=true:=by kernel_rfl
theorem Xw.chk:Xe Tryz.prog 102 Xw.fn=true:=by kernel_rfl
theorem Zk.chk:Xe Tryz.prog 103 Zk.fn=true:=by kernel_rfl
theorem Q0.chk:Xe Tryz.prog 104 Q0.fn=true:=by kernel_rfl
theorem Vc.chk:Xe Tryz.prog 105 Vc.fn=true:=by kernel_rfl
theorem Vv.chk:Xe Tryz.prog 106 Vv.fn=true:=by kernel_rfl
theorem Gb.chk:Xe Tryz.prog 107 Gb.fn=true:=by kernel_rfl
theorem Yv.chk:Xe Tryz.prog 109 Yv.fn=true:=by kernel_rfl
theorem H5.chk:Xe Tryz.prog 111 H5.fn=true:=by kernel_rfl
theorem Cf:∀ f g,prog f=some g→Xe Tryz.prog f g=true:=fun f g h=>by
  unfold prog at h
  split at h
  · cases h; exact Zt.chk
  · cases h; exact Xy.chk
  · cases h; exact X3.chk
  · cases h; exact Zg.chk
  · cases h; exact Ye.chk
  · cases h; exact X6.chk
  · cases h; exact Js.chk
  · cases h; exact Z3.chk
  · cases h; exact Zn.chk
  · cases h; exact Z1.chk
  · cases h; exact Gn.chk
  · cases h; exact J1.chk
  · cases h; exact Qc.chk
  · cases h; exact Ha.chk
  · cases h; exact Zc.chk
  · cases h; exact Z9.chk
  · cases h; exact Yd.chk
  · cases h; exact Z2.chk
  · cases h; exact Z4.chk
  · cases h; exact Yf.chk
  · cases h; exact Zf.chk
  · cases h; exact Zh.chk
  · cases h; exact K6.chk
  · cases h; exact Zx.chk
  · cases h; exact Zy.chk
  · cases h; exact Jh.chk
  · cases h; exact He.chk
  · cases h; exact Hf.chk
  · cases h; exact Qg.chk
  · cases h; exact Gm.chk
  · cases h; exact Ki.chk
  · cases h; exact H4.chk
  · cases h; exact P3.chk
  · cases h; exact Qk.chk
  · cases h; exact Kf.chk
  · cases h; exact Ql.chk
  · cases h; exact Kg.chk
  · cases h; exact P4.chk
  · cases h; exact Qm.chk
  · cases h; exact Hg.chk
  · cases h; exact Qn.chk
  · cases h; exact Kd.chk
  · cases h; exact Qo.chk
  · cases h; exact V9.chk
  · cases h; exact Qp.chk
  · cases h; exact Vj.chk
  · cases h; exact Qq.chk
  · cases h; exact Vk.chk
  · cases h; exact Z7.chk
  · cases h; exact T9.chk
  · cases h; exact Vl.chk
  · cases h; exact Ke.chk
  · cases h; exact Kx.chk
  · cases h; exact Ut.chk
  · cases h; exact Zo.chk
  · cases h; exact Xb.chk
  · cases h; exact Ka.chk
  · cases h; exact Qr.chk
  · cases h; exact Yh.chk
  · cases h; exact V1.chk
  · cases h; exact J8.chk
  · cases h; exact Jp.chk
  · cases h; exact Qs.chk
  · cases h; exact Q6.chk
  · cases h; exact Vt.chk
  · cases h; exact Y1.chk
  · cases h; exact Yy.chk
  · cases h; exact Q2.chk
  · cases h; exact Jk.chk
  · cases h; exact Jz.chk
  · cases h; exact Jl.chk
  · cases h; exact Jm.chk
  · cases h; exact Jn.chk
  · cases h; exact Jg.chk
  · cases h; exact Xq.chk
  · cases h; exact Jo.chk
  · cases h; exact Q8.chk
  · cases h; exact K8.chk
  · cases h; exact Yk.chk
  · cases h; exact Qt.chk
  · cases h; exact Qu.chk
  · cases h; exact Qv.chk
  · cases h; exact Qw.chk
  · cases h; exact Ky.chk
  · cases h; exact Y9.chk
  · cases h; exact Ys.chk
  · cases h; exact Yw.chk
  · cases h; exact Ym.chk
  · cases h; exact Y5.chk
  · cases h; exact Xt.chk
  · cases h; exact Kb.chk
  · cases h; exact Y4.chk
  · cases h; exact Xd.chk
  · cases h; exact Xw.chk
  · cases h; exact Zk.chk
  · cases h; exact Q0.chk
  · cases h; exact Vc.chk
  · cases h; exact Vv.chk
  · cases h; exact Gb.chk
  · cases h; exact Yv.chk
  · cases h; exact H5.chk
  · cases h
end Go.Proofs.YtjobjooccgledaaGreatDoor.Ghost
