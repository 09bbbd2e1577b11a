/- Each function's ghost code is the program's. Conditions: none. -/
import Derived.Test.YtpemapoblhleoaaGreatDoorA4
import Derived.Test.YtpemapoblhleoaaGreatDoorGF
import Derived.KernelRfl
import Derived.Test.YtpemapoblhleoaaGreatDoorProg
namespace Go.Proofs.YtpemapoblhleoaaGreatDoor.Ghost
open Go
theorem Zl.chk:Xe Tryz.prog 4 Zl.fn=true:=by kernel_rfl
theorem X4.chk:Xe Tryz.prog 7 X4.fn=true:=by kernel_rfl
theorem X7.chk:Xe Tryz.prog 8 X7.fn=true:=by kernel_rfl
theorem Yd.chk:Xe Tryz.prog 9 Yd.fn=true:=by kernel_rfl
theorem Jo.chk:Xe Tryz.prog 10 Jo.fn=true:=by kernel_rfl
theorem Zk.chk:Xe Tryz.prog 12 Zk.fn=true:=by kernel_rfl
theorem X2.chk:Xe Tryz.prog 13 X2.fn=true:=by kernel_rfl
theorem Zf.chk:Xe Tryz.prog 14 Zf.fn=true:=by kernel_rfl
theorem Z3.chk:Xe Tryz.prog 15 Z3.fn=true:=by kernel_rfl
theorem Zn.chk:Xe Tryz.prog 16 Zn.fn=true:=by kernel_rfl
theorem Ju.chk:Xe Tryz.prog 18 Ju.fn=true:=by kernel_rfl
theorem W9.chk:Xe Tryz.prog 19 W9.fn=true:=by kernel_rfl
theorem X6.chk:Xe Tryz.prog 20 X6.fn=true:=by kernel_rfl
theorem K0.chk:Xe Tryz.prog 21 K0.fn=true:=by kernel_rfl
theorem Zu.chk:Xe Tryz.prog 33 Zu.fn=true:=by kernel_rfl
theorem Zw.chk:Xe Tryz.prog 34 Zw.fn=true:=by kernel_rfl
theorem Zz.chk:Xe Tryz.prog 35 Zz.fn=true:=by kernel_rfl
theorem Zc.chk:Xe Tryz.prog 36 Zc.fn=true:=by kernel_rfl
theorem Z9.chk:Xe Tryz.prog 37 Z9.fn=true:=by kernel_rfl
theorem Yc.chk:Xe Tryz.prog 38 Yc.fn=true:=by kernel_rfl
theorem Z0.chk:Xe Tryz.prog 39 Z0.fn=true:=by kernel_rfl
theorem Z2.chk:Xe Tryz.prog 40 Z2.fn=true:=by kernel_rfl
theorem Ye.chk:Xe Tryz.prog 41 Ye.fn=true:=by kernel_rfl
theorem Xw.chk:Xe Tryz.prog 42 Xw.fn=true:=by kernel_rfl
theorem K8.chk:Xe Tryz.prog 45 K8.fn=true:=by kernel_rfl
theorem K9.chk:Xe Tryz.prog 46 K9.fn=true:=by kernel_rfl
theorem Qe.chk:Xe Tryz.prog 47 Qe.fn=true:=by kernel_rfl
theorem Gj.chk:Xe Tryz.prog 48 Gj.fn=true:=by kernel_rfl
theorem Kd.chk:Xe Tryz.prog 49 Kd.fn=true:=by kernel_rfl
theorem Hz.chk:Xe Tryz.prog 50 Hz.fn=true:=by kernel_rfl
theorem Pn.chk:Xe Tryz.prog 51 Pn.fn=true:=by kernel_rfl
theorem Qh.chk:Xe Tryz.prog 52 Qh.fn=true:=by kernel_rfl
theorem Ka.chk:Xe Tryz.prog 53 Ka.fn=true:=by kernel_rfl
theorem Qi.chk:Xe Tryz.prog 54 Qi.fn=true:=by kernel_rfl
theorem Kb.chk:Xe Tryz.prog 55 Kb.fn=true:=by kernel_rfl
theorem Po.chk:Xe Tryz.prog 56 Po.fn=true:=by kernel_rfl
theorem Qj.chk:Xe Tryz.prog 57 Qj.fn=true:=by kernel_rfl
theorem Hc.chk:Xe Tryz.prog 58 Hc.fn=true:=by kernel_rfl
theorem Qk.chk:Xe Tryz.prog 59 Qk.fn=true:=by kernel_rfl
theorem V8.chk:Xe Tryz.prog 60 V8.fn=true:=by kernel_rfl
theorem Ql.chk:Xe Tryz.prog 61 Ql.fn=true:=by kernel_rfl
theorem V4.chk:Xe Tryz.prog 62 V4.fn=true:=by kernel_rfl
theorem Qm.chk:Xe Tryz.prog 63 Qm.fn=true:=by kernel_rfl
theorem Vg.chk:Xe Tryz.prog 64 Vg.fn=true:=by kernel_rfl
theorem Qn.chk:Xe Tryz.prog 65 Qn.fn=true:=by kernel_rfl
theorem Vh.chk:Xe Tryz.prog 66 Vh.fn=true:=by kernel_rfl
theorem Z6.chk:Xe Tryz.prog 67 Z6.fn=true:=by kernel_rfl
theorem Tw.chk:Xe Tryz.prog 68 Tw.fn=true:=by kernel_rfl
theorem Vi.chk:Xe Tryz.prog 69 Vi.fn=true:=by kernel_rfl
theorem V9.chk:Xe Tryz.prog 70 V9.fn=true:=by kernel_rfl
theorem Kp.chk:Xe Tryz.prog 81 Kp.fn=true:=by kernel_rfl
theorem Ui.chk:Xe Tryz.prog 82 Ui.fn=true:=by kernel_rfl
theorem Zo.chk:Xe Tryz.prog 83 Zo.fn=true:=by kernel_rfl
theorem Xa.chk:Xe Tryz.prog 84 Xa.fn=true:=by kernel_rfl
theorem V5.chk:Xe Tryz.prog 85 V5.fn=true:=by kernel_rfl
theorem Qo.chk:Xe Tryz.prog 86 Qo.fn=true:=by kernel_rfl
theorem Yg.chk:Xe Tryz.prog 87 Yg.fn=true:=by kernel_rfl
theorem Vx.chk:Xe Tryz.prog 88 Vx.fn=true:=by kernel_rfl
theorem J5.chk:Xe Tryz.prog 89 J5.fn=true:=by kernel_rfl
theorem Jk.chk:Xe Tryz.prog 90 Jk.fn=true:=by kernel_rfl
theorem Qp.chk:Xe Tryz.prog 91 Qp.fn=true:=by kernel_rfl
theorem Q2.chk:Xe Tryz.prog 92 Q2.fn=true:=by kernel_rfl
theorem Vr.chk:Xe Tryz.prog 93 Vr.fn=true:=by kernel_rfl
theorem Y1.chk:Xe Tryz.prog 94 Y1.fn=true:=by kernel_rfl
theorem Yy.chk:Xe Tryz.prog 95 Yy.fn=true:=by kernel_rfl
theorem Qy.chk:Xe Tryz.prog 96 Qy.fn=true:=by kernel_rfl
theorem Je.chk:Xe Tryz.prog 97 Je.fn=true:=by kernel_rfl
theorem Jt.chk:Xe Tryz.prog 98 Jt.fn=true:=by kernel_rfl
theorem Jf.chk:Xe Tryz.prog 99 Jf.fn=true:=by kernel_rfl
theorem Jg.chk:Xe Tryz.prog 100 Jg.fn=true:=by kernel_rfl
theorem Jh.chk:Xe Tryz.prog 102 Jh.fn=true:=by kernel_rfl
theorem Jc.chk:Xe Tryz.prog 103 Jc.fn=true:=by kernel_rfl
theorem Xl.chk:Xe Tryz.prog 104 Xl.fn=true:=by kernel_rfl
theorem Ji.chk:Xe Tryz.prog 105 Ji.fn=true:=by kernel_rfl
theorem Q4.chk:Xe Tryz.prog 106 Q4.fn=true:=by kernel_rfl
theorem K2.chk:Xe Tryz.prog 107 K2.fn=true:=by kernel_rfl
theorem Yk.chk:Xe Tryz.prog 108 Yk.fn=true:=by kernel_rfl
theorem Qq.chk:Xe Tryz.prog 109 Qq.fn=true:=by kernel_rfl
theorem Qr.chk:Xe Tryz.prog 110 Qr.fn=true:=by kernel_rfl
theorem Qs.chk:Xe Tryz.prog 111 Qs.fn=true:=by kernel_rfl
theorem Qt.chk:Xe Tryz.prog 112 Qt.fn=true:=by kernel_rfl
theorem Kr.chk:Xe Tryz.prog 113 Kr.fn=true:=by kernel_rfl
theorem Y6.chk:Xe Tryz.prog 114 Y6.fn=true:=by kernel_rfl
theorem Ys.chk:Xe Tryz.prog 115 Ys.fn=true:=by kernel_rfl
theorem Yw.chk:Xe Tryz.prog 117 Yw.fn=true:=by kernel_rfl
theorem Ym.chk:Xe Tryz.prog 118 Ym.fn=true:=by kernel_rfl
theorem Y4.chk:Xe Tryz.prog 119 Y4.fn=true:=by kernel_rfl
theorem Xo.chk:Xe Tryz.prog 120 Xo.fn=true:=by kernel_rfl
theorem V6.chk:Xe Tryz.prog 121 V6.fn=true:=by kernel_rfl
theorem Jd.chk:Xe Tryz.prog 122 Jd.fn=true:=by kernel_rfl
theorem Y3.chk:Xe Tryz.prog 123 Y3.fn=true:=by kernel_rfl
theorem Xb.chk:Xe Tryz.prog 124 Xb.fn=true:=by kernel_rfl
theorem Xt.chk:Xe Tryz.prog 125 Xt.fn=true:=by kernel_rfl
theorem Zh.chk:Xe Tryz.prog 127 Zh.fn=true:=by kernel_rfl
theorem Qx.chk:Xe Tryz.prog 128 Qx.fn=true:=by kernel_rfl
theorem J9.chk:Xe Tryz.prog 129 J9.fn=true:=by kernel_rfl
theorem Vu.chk:Xe Tryz.prog 130 Vu.fn=true:=by kernel_rfl
theorem H6.chk:Xe Tryz.prog 131 H6.fn=true:=by kernel_rfl
theorem Yv.chk:Xe Tryz.prog 133 Yv.fn=true:=by kernel_rfl
theorem H0.chk:Xe Tryz.prog 135 H0.fn=true:=by kernel_rfl
theorem AB6:∀ f g,prog f=some g→Xe Tryz.prog f g=true:=fun f g h=>by
  unfold prog at h
  split at h
  · cases h; exact Zl.chk
  · cases h; exact X4.chk
  · cases h; exact X7.chk
  · cases h; exact Yd.chk
  · cases h; exact Jo.chk
  · cases h; exact Zk.chk
  · cases h; exact X2.chk
  · cases h; exact Zf.chk
  · cases h; exact Z3.chk
  · cases h; exact Zn.chk
  · cases h; exact Ju.chk
  · cases h; exact W9.chk
  · cases h; exact X6.chk
  · cases h; exact K0.chk
  · cases h; exact Zu.chk
  · cases h; exact Zw.chk
  · cases h; exact Zz.chk
  · cases h; exact Zc.chk
  · cases h; exact Z9.chk
  · cases h; exact Yc.chk
  · cases h; exact Z0.chk
  · cases h; exact Z2.chk
  · cases h; exact Ye.chk
  · cases h; exact Xw.chk
  · cases h; exact K8.chk
  · cases h; exact K9.chk
  · cases h; exact Qe.chk
  · cases h; exact Gj.chk
  · cases h; exact Kd.chk
  · cases h; exact Hz.chk
  · cases h; exact Pn.chk
  · cases h; exact Qh.chk
  · cases h; exact Ka.chk
  · cases h; exact Qi.chk
  · cases h; exact Kb.chk
  · cases h; exact Po.chk
  · cases h; exact Qj.chk
  · cases h; exact Hc.chk
  · cases h; exact Qk.chk
  · cases h; exact V8.chk
  · cases h; exact Ql.chk
  · cases h; exact V4.chk
  · cases h; exact Qm.chk
  · cases h; exact Vg.chk
  · cases h; exact Qn.chk
  · cases h; exact Vh.chk
  · cases h; exact Z6.chk
  · cases h; exact Tw.chk
  · cases h; exact Vi.chk
  · cases h; exact V9.chk
  · cases h; exact Kp.chk
  · cases h; exact Ui.chk
  · cases h; exact Zo.chk
  · cases h; exact Xa.chk
  · cases h; exact V5.chk
  · cases h; exact Qo.chk
  · cases h; exact Yg.chk
  · cases h; exact Vx.chk
  · cases h; exact J5.chk
  · cases h; exact Jk.chk
  · cases h; exact Qp.chk
  · cases h; exact Q2.chk
  · cases h; exact Vr.chk
  · cases h; exact Y1.chk
  · cases h; exact Yy.chk
  · cases h; exact Qy.chk
  · cases h; exact Je.chk
  · cases h; exact Jt.chk
  · cases h; exact Jf.chk
  · cases h; exact Jg.chk
  · cases h; exact Jh.chk
  · cases h; exact Jc.chk
  · cases h; exact Xl.chk
  · cases h; exact Ji.chk
  · cases h; exact Q4.chk
  · cases h; exact K2.chk
  · cases h; exact Yk.chk
  · cases h; exact Qq.chk
  · cases h; exact Qr.chk
  · cases h; exact Qs.chk
  · cases h; exact Qt.chk
  · cases h; exact Kr.chk
  · cases h; exact Y6.chk
  · cases h; exact Ys.chk
  · cases h; exact Yw.chk
  · cases h; exact Ym.chk
  · cases h; exact Y4.chk
  · cases h; exact Xo.chk
  · cases h; exact V6.chk
  · cases h; exact Jd.chk
  · cases h; exact Y3.chk
  · cases h; exact Xb.chk
  · cases h; exact Xt.chk
  · cases h; exact Zh.chk
  · cases h; exact Qx.chk
  · cases h; exact J9.chk
  · cases h; exact Vu.chk
  · cases h; exact H6.chk
  · cases h; exact Yv.chk
  · cases h; exact H0.chk
  · cases h
end Go.Proofs.YtpemapoblhleoaaGreatDoor.Ghost
