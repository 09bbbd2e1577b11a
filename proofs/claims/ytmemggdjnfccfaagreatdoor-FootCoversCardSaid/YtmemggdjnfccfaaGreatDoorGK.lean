/- Each function's ghost code is the program's. Conditions: none. -/
import Derived.Test.YtmemggdjnfccfaaGreatDoorA4
import Derived.Test.YtmemggdjnfccfaaGreatDoorGF
import Derived.KernelRfl
import Derived.Test.YtmemggdjnfccfaaGreatDoorProg
namespace Go.Proofs.YtmemggdjnfccfaaGreatDoor.Ghost
open Go
theorem Zs.chk:Xf Tryz.prog 3 Zs.fn=true:=by kernel_rfl
theorem X7.chk:Xf Tryz.prog 5 X7.fn=true:=by kernel_rfl
theorem Yf.chk:Xf Tryz.prog 6 Yf.fn=true:=by kernel_rfl
theorem Yn.chk:Xf Tryz.prog 7 Yn.fn=true:=by kernel_rfl
theorem Yd.chk:Xf Tryz.prog 8 Yd.fn=true:=by kernel_rfl
theorem G4.chk:Xf Tryz.prog 9 G4.fn=true:=by kernel_rfl
theorem J1.chk:Xf Tryz.prog 10 J1.fn=true:=by kernel_rfl
theorem Z5.chk:Xf Tryz.prog 11 Z5.fn=true:=by kernel_rfl
theorem Zk.chk:Xf Tryz.prog 12 Zk.fn=true:=by kernel_rfl
theorem Zz.chk:Xf Tryz.prog 13 Zz.fn=true:=by kernel_rfl
theorem Xy.chk:Xf Tryz.prog 14 Xy.fn=true:=by kernel_rfl
theorem Yg.chk:Xf Tryz.prog 15 Yg.fn=true:=by kernel_rfl
theorem Jl.chk:Xf Tryz.prog 18 Jl.fn=true:=by kernel_rfl
theorem Vb.chk:Xf Tryz.prog 19 Vb.fn=true:=by kernel_rfl
theorem Qk.chk:Xf Tryz.prog 20 Qk.fn=true:=by kernel_rfl
theorem Ye.chk:Xf Tryz.prog 21 Ye.fn=true:=by kernel_rfl
theorem Zg.chk:Xf Tryz.prog 22 Zg.fn=true:=by kernel_rfl
theorem Zf.chk:Xf Tryz.prog 23 Zf.fn=true:=by kernel_rfl
theorem Zh.chk:Xf Tryz.prog 24 Zh.fn=true:=by kernel_rfl
theorem Jq.chk:Xf Tryz.prog 25 Jq.fn=true:=by kernel_rfl
theorem Hg.chk:Xf Tryz.prog 27 Hg.fn=true:=by kernel_rfl
theorem Yq.chk:Xf Tryz.prog 29 Yq.fn=true:=by kernel_rfl
theorem Z7.chk:Xf Tryz.prog 30 Z7.fn=true:=by kernel_rfl
theorem Vg.chk:Xf Tryz.prog 31 Vg.fn=true:=by kernel_rfl
theorem X6.chk:Xf Tryz.prog 32 X6.fn=true:=by kernel_rfl
theorem Zc.chk:Xf Tryz.prog 36 Zc.fn=true:=by kernel_rfl
theorem Xc.chk:Xf Tryz.prog 37 Xc.fn=true:=by kernel_rfl
theorem Ym.chk:Xf Tryz.prog 38 Ym.fn=true:=by kernel_rfl
theorem Z1.chk:Xf Tryz.prog 39 Z1.fn=true:=by kernel_rfl
theorem Z3.chk:Xf Tryz.prog 40 Z3.fn=true:=by kernel_rfl
theorem Yo.chk:Xf Tryz.prog 41 Yo.fn=true:=by kernel_rfl
theorem Ho.chk:Xf Tryz.prog 44 Ho.fn=true:=by kernel_rfl
theorem Hp.chk:Xf Tryz.prog 45 Hp.fn=true:=by kernel_rfl
theorem Qo.chk:Xf Tryz.prog 46 Qo.fn=true:=by kernel_rfl
theorem G3.chk:Xf Tryz.prog 47 G3.fn=true:=by kernel_rfl
theorem Kx.chk:Xf Tryz.prog 48 Kx.fn=true:=by kernel_rfl
theorem Gh.chk:Xf Tryz.prog 49 Gh.fn=true:=by kernel_rfl
theorem P7.chk:Xf Tryz.prog 50 P7.fn=true:=by kernel_rfl
theorem Qr.chk:Xf Tryz.prog 51 Qr.fn=true:=by kernel_rfl
theorem Ku.chk:Xf Tryz.prog 52 Ku.fn=true:=by kernel_rfl
theorem Qs.chk:Xf Tryz.prog 53 Qs.fn=true:=by kernel_rfl
theorem Kv.chk:Xf Tryz.prog 54 Kv.fn=true:=by kernel_rfl
theorem P8.chk:Xf Tryz.prog 55 P8.fn=true:=by kernel_rfl
theorem Qt.chk:Xf Tryz.prog 56 Qt.fn=true:=by kernel_rfl
theorem Hq.chk:Xf Tryz.prog 57 Hq.fn=true:=by kernel_rfl
theorem Qu.chk:Xf Tryz.prog 58 Qu.fn=true:=by kernel_rfl
theorem Kr.chk:Xf Tryz.prog 59 Kr.fn=true:=by kernel_rfl
theorem Qv.chk:Xf Tryz.prog 60 Qv.fn=true:=by kernel_rfl
theorem Km.chk:Xf Tryz.prog 61 Km.fn=true:=by kernel_rfl
theorem Qw.chk:Xf Tryz.prog 62 Qw.fn=true:=by kernel_rfl
theorem Vy.chk:Xf Tryz.prog 63 Vy.fn=true:=by kernel_rfl
theorem Qx.chk:Xf Tryz.prog 64 Qx.fn=true:=by kernel_rfl
theorem Vz.chk:Xf Tryz.prog 65 Vz.fn=true:=by kernel_rfl
theorem Z6.chk:Xf Tryz.prog 66 Z6.fn=true:=by kernel_rfl
theorem Rm.chk:Xf Tryz.prog 67 Rm.fn=true:=by kernel_rfl
theorem V0.chk:Xf Tryz.prog 68 V0.fn=true:=by kernel_rfl
theorem Ks.chk:Xf Tryz.prog 69 Ks.fn=true:=by kernel_rfl
theorem Zm.chk:Xf Tryz.prog 70 Zm.fn=true:=by kernel_rfl
theorem Gq.chk:Xf Tryz.prog 72 Gq.fn=true:=by kernel_rfl
theorem K8.chk:Xf Tryz.prog 77 K8.fn=true:=by kernel_rfl
theorem U1.chk:Xf Tryz.prog 78 U1.fn=true:=by kernel_rfl
theorem Zr.chk:Xf Tryz.prog 79 Zr.fn=true:=by kernel_rfl
theorem Xe.chk:Xf Tryz.prog 80 Xe.fn=true:=by kernel_rfl
theorem Ko.chk:Xf Tryz.prog 81 Ko.fn=true:=by kernel_rfl
theorem Qy.chk:Xf Tryz.prog 82 Qy.fn=true:=by kernel_rfl
theorem Yp.chk:Xf Tryz.prog 83 Yp.fn=true:=by kernel_rfl
theorem Kf.chk:Xf Tryz.prog 84 Kf.fn=true:=by kernel_rfl
theorem Vm.chk:Xf Tryz.prog 85 Vm.fn=true:=by kernel_rfl
theorem Jw.chk:Xf Tryz.prog 86 Jw.fn=true:=by kernel_rfl
theorem Qz.chk:Xf Tryz.prog 87 Qz.fn=true:=by kernel_rfl
theorem Jc.chk:Xf Tryz.prog 88 Jc.fn=true:=by kernel_rfl
theorem Ka.chk:Xf Tryz.prog 89 Ka.fn=true:=by kernel_rfl
theorem Qc.chk:Xf Tryz.prog 90 Qc.fn=true:=by kernel_rfl
theorem Y8.chk:Xf Tryz.prog 91 Y8.fn=true:=by kernel_rfl
theorem Q7.chk:Xf Tryz.prog 92 Q7.fn=true:=by kernel_rfl
theorem Jr.chk:Xf Tryz.prog 93 Jr.fn=true:=by kernel_rfl
theorem Va.chk:Xf Tryz.prog 94 Va.fn=true:=by kernel_rfl
theorem Js.chk:Xf Tryz.prog 95 Js.fn=true:=by kernel_rfl
theorem Jt.chk:Xf Tryz.prog 96 Jt.fn=true:=by kernel_rfl
theorem Ju.chk:Xf Tryz.prog 98 Ju.fn=true:=by kernel_rfl
theorem Jo.chk:Xf Tryz.prog 99 Jo.fn=true:=by kernel_rfl
theorem Xq.chk:Xf Tryz.prog 100 Xq.fn=true:=by kernel_rfl
theorem Jv.chk:Xf Tryz.prog 101 Jv.fn=true:=by kernel_rfl
theorem Je.chk:Xf Tryz.prog 102 Je.fn=true:=by kernel_rfl
theorem Hi.chk:Xf Tryz.prog 103 Hi.fn=true:=by kernel_rfl
theorem Ys.chk:Xf Tryz.prog 104 Ys.fn=true:=by kernel_rfl
theorem Q0.chk:Xf Tryz.prog 105 Q0.fn=true:=by kernel_rfl
theorem Q2.chk:Xf Tryz.prog 106 Q2.fn=true:=by kernel_rfl
theorem Q3.chk:Xf Tryz.prog 107 Q3.fn=true:=by kernel_rfl
theorem Q4.chk:Xf Tryz.prog 108 Q4.fn=true:=by kernel_rfl
theorem Ha.chk:Xf Tryz.prog 109 Ha.fn=true:=by kernel_rfl
theorem Qg.chk:Xf Tryz.prog 110 Qg.fn=true:=by kernel_rfl
theorem Y0.chk:Xf Tryz.prog 111 Y0.fn=true:=by kernel_rfl
theorem Y6.chk:Xf Tryz.prog 113 Y6.fn=true:=by kernel_rfl
theorem Yt.chk:Xf Tryz.prog 114 Yt.fn=true:=by kernel_rfl
theorem Qf.chk:Xf Tryz.prog 115 Qf.fn=true:=by kernel_rfl
theorem Xu.chk:Xf Tryz.prog 116 Xu.fn=true:=by kernel_rfl
theorem Kp.chk:Xf Tryz.prog 117 Kp.fn=true:=by kernel_rfl
theorem Jp.chk:Xf Tryz.prog 118 Jp.fn=true:=by kernel_rfl
theorem Qe.chk:Xf Tryz.prog 119 Qe.fn=true:=by kernel_rfl
theorem Xg.chk:Xf Tryz.prog 120 Xg.fn=true:=by kernel_rfl
theorem X0.chk:Xf Tryz.prog 121 X0.fn=true:=by kernel_rfl
theorem Zj.chk:Xf Tryz.prog 135 Zj.fn=true:=by kernel_rfl
theorem Q6.chk:Xf Tryz.prog 136 Q6.fn=true:=by kernel_rfl
theorem Y5.chk:Xf Tryz.prog 137 Y5.fn=true:=by kernel_rfl
theorem Gi.chk:Xf Tryz.prog 139 Gi.fn=true:=by kernel_rfl
theorem ADu:∀ f g,prog f=some g→Xf Tryz.prog f g=true:=fun f g h=>by
  unfold prog at h
  split at h
  · cases h; exact Zs.chk
  · cases h; exact X7.chk
  · cases h; exact Yf.chk
  · cases h; exact Yn.chk
  · cases h; exact Yd.chk
  · cases h; exact G4.chk
  · cases h; exact J1.chk
  · cases h; exact Z5.chk
  · cases h; exact Zk.chk
  · cases h; exact Zz.chk
  · cases h; exact Xy.chk
  · cases h; exact Yg.chk
  · cases h; exact Jl.chk
  · cases h; exact Vb.chk
  · cases h; exact Qk.chk
  · cases h; exact Ye.chk
  · cases h; exact Zg.chk
  · cases h; exact Zf.chk
  · cases h; exact Zh.chk
  · cases h; exact Jq.chk
  · cases h; exact Hg.chk
  · cases h; exact Yq.chk
  · cases h; exact Z7.chk
  · cases h; exact Vg.chk
  · cases h; exact X6.chk
  · cases h; exact Zc.chk
  · cases h; exact Xc.chk
  · cases h; exact Ym.chk
  · cases h; exact Z1.chk
  · cases h; exact Z3.chk
  · cases h; exact Yo.chk
  · cases h; exact Ho.chk
  · cases h; exact Hp.chk
  · cases h; exact Qo.chk
  · cases h; exact G3.chk
  · cases h; exact Kx.chk
  · cases h; exact Gh.chk
  · cases h; exact P7.chk
  · cases h; exact Qr.chk
  · cases h; exact Ku.chk
  · cases h; exact Qs.chk
  · cases h; exact Kv.chk
  · cases h; exact P8.chk
  · cases h; exact Qt.chk
  · cases h; exact Hq.chk
  · cases h; exact Qu.chk
  · cases h; exact Kr.chk
  · cases h; exact Qv.chk
  · cases h; exact Km.chk
  · cases h; exact Qw.chk
  · cases h; exact Vy.chk
  · cases h; exact Qx.chk
  · cases h; exact Vz.chk
  · cases h; exact Z6.chk
  · cases h; exact Rm.chk
  · cases h; exact V0.chk
  · cases h; exact Ks.chk
  · cases h; exact Zm.chk
  · cases h; exact Gq.chk
  · cases h; exact K8.chk
  · cases h; exact U1.chk
  · cases h; exact Zr.chk
  · cases h; exact Xe.chk
  · cases h; exact Ko.chk
  · cases h; exact Qy.chk
  · cases h; exact Yp.chk
  · cases h; exact Kf.chk
  · cases h; exact Vm.chk
  · cases h; exact Jw.chk
  · cases h; exact Qz.chk
  · cases h; exact Jc.chk
  · cases h; exact Ka.chk
  · cases h; exact Qc.chk
  · cases h; exact Y8.chk
  · cases h; exact Q7.chk
  · cases h; exact Jr.chk
  · cases h; exact Va.chk
  · cases h; exact Js.chk
  · cases h; exact Jt.chk
  · cases h; exact Ju.chk
  · cases h; exact Jo.chk
  · cases h; exact Xq.chk
  · cases h; exact Jv.chk
  · cases h; exact Je.chk
  · cases h; exact Hi.chk
  · cases h; exact Ys.chk
  · cases h; exact Q0.chk
  · cases h; exact Q2.chk
  · cases h; exact Q3.chk
  · cases h; exact Q4.chk
  · cases h; exact Ha.chk
  · cases h; exact Qg.chk
  · cases h; exact Y0.chk
  · cases h; exact Y6.chk
  · cases h; exact Yt.chk
  · cases h; exact Qf.chk
  · cases h; exact Xu.chk
  · cases h; exact Kp.chk
  · cases h; exact Jp.chk
  · cases h; exact Qe.chk
  · cases h; exact Xg.chk
  · cases h; exact X0.chk
  · cases h; exact Zj.chk
  · cases h; exact Q6.chk
  · cases h; exact Y5.chk
  · cases h; exact Gi.chk
  · cases h
end Go.Proofs.YtmemggdjnfccfaaGreatDoor.Ghost
