/- Each function's ghost code is the program's. Conditions: none. -/
import Derived.Test.YtpemapoblhleoaaGreatDoorA4
import Derived.Test.YtpemapoblhleoaaGreatDoorGF
import Derived.KernelRfl
import Derived.Test.YtpemapoblhleoaaGreatDoorProg
namespace Go.Proofs.YtpemapoblhleoaaGreatDoor.Ghost
open Go
theorem Zi.chk:Xa Tryz.prog 6 Zi.fn=true:=by kernel_rfl
theorem Xw.chk:Xa Tryz.prog 7 Xw.fn=true:=by kernel_rfl
theorem X4.chk:Xa Tryz.prog 8 X4.fn=true:=by kernel_rfl
theorem X8.chk:Xa Tryz.prog 9 X8.fn=true:=by kernel_rfl
theorem Q0.chk:Xa Tryz.prog 10 Q0.fn=true:=by kernel_rfl
theorem Q7.chk:Xa Tryz.prog 13 Q7.fn=true:=by kernel_rfl
theorem Zg.chk:Xa Tryz.prog 14 Zg.fn=true:=by kernel_rfl
theorem X2.chk:Xa Tryz.prog 17 X2.fn=true:=by kernel_rfl
theorem Jr.chk:Xa Tryz.prog 18 Jr.fn=true:=by kernel_rfl
theorem Wv.chk:Xa Tryz.prog 19 Wv.fn=true:=by kernel_rfl
theorem X3.chk:Xa Tryz.prog 20 X3.fn=true:=by kernel_rfl
theorem K1.chk:Xa Tryz.prog 21 K1.fn=true:=by kernel_rfl
theorem Q6.chk:Xa Tryz.prog 33 Q6.fn=true:=by kernel_rfl
theorem Qv.chk:Xa Tryz.prog 35 Qv.fn=true:=by kernel_rfl
theorem Zc.chk:Xa Tryz.prog 36 Zc.fn=true:=by kernel_rfl
theorem Z5.chk:Xa Tryz.prog 37 Z5.fn=true:=by kernel_rfl
theorem X7.chk:Xa Tryz.prog 38 X7.fn=true:=by kernel_rfl
theorem Zx.chk:Xa Tryz.prog 39 Zx.fn=true:=by kernel_rfl
theorem Zz.chk:Xa Tryz.prog 40 Zz.fn=true:=by kernel_rfl
theorem X9.chk:Xa Tryz.prog 41 X9.fn=true:=by kernel_rfl
theorem Zf.chk:Xa Tryz.prog 43 Zf.fn=true:=by kernel_rfl
theorem Zh.chk:Xa Tryz.prog 44 Zh.fn=true:=by kernel_rfl
theorem K9.chk:Xa Tryz.prog 45 K9.fn=true:=by kernel_rfl
theorem Ha.chk:Xa Tryz.prog 46 Ha.fn=true:=by kernel_rfl
theorem Y9.chk:Xa Tryz.prog 47 Y9.fn=true:=by kernel_rfl
theorem Gg.chk:Xa Tryz.prog 48 Gg.fn=true:=by kernel_rfl
theorem Ka.chk:Xa Tryz.prog 49 Ka.fn=true:=by kernel_rfl
theorem Hy.chk:Xa Tryz.prog 50 Hy.fn=true:=by kernel_rfl
theorem Pg.chk:Xa Tryz.prog 51 Pg.fn=true:=by kernel_rfl
theorem Qd.chk:Xa Tryz.prog 52 Qd.fn=true:=by kernel_rfl
theorem V7.chk:Xa Tryz.prog 53 V7.fn=true:=by kernel_rfl
theorem Qe.chk:Xa Tryz.prog 54 Qe.fn=true:=by kernel_rfl
theorem V8.chk:Xa Tryz.prog 55 V8.fn=true:=by kernel_rfl
theorem Ph.chk:Xa Tryz.prog 56 Ph.fn=true:=by kernel_rfl
theorem Qf.chk:Xa Tryz.prog 57 Qf.fn=true:=by kernel_rfl
theorem Hb.chk:Xa Tryz.prog 58 Hb.fn=true:=by kernel_rfl
theorem Qg.chk:Xa Tryz.prog 59 Qg.fn=true:=by kernel_rfl
theorem V5.chk:Xa Tryz.prog 60 V5.fn=true:=by kernel_rfl
theorem Qh.chk:Xa Tryz.prog 61 Qh.fn=true:=by kernel_rfl
theorem V1.chk:Xa Tryz.prog 62 V1.fn=true:=by kernel_rfl
theorem Qi.chk:Xa Tryz.prog 63 Qi.fn=true:=by kernel_rfl
theorem Vf.chk:Xa Tryz.prog 64 Vf.fn=true:=by kernel_rfl
theorem Qj.chk:Xa Tryz.prog 65 Qj.fn=true:=by kernel_rfl
theorem Vg.chk:Xa Tryz.prog 66 Vg.fn=true:=by kernel_rfl
theorem Z1.chk:Xa Tryz.prog 67 Z1.fn=true:=by kernel_rfl
theorem Tp.chk:Xa Tryz.prog 68 Tp.fn=true:=by kernel_rfl
theorem Vh.chk:Xa Tryz.prog 69 Vh.fn=true:=by kernel_rfl
theorem V6.chk:Xa Tryz.prog 70 V6.fn=true:=by kernel_rfl
theorem Kp.chk:Xa Tryz.prog 81 Kp.fn=true:=by kernel_rfl
theorem Ue.chk:Xa Tryz.prog 82 Ue.fn=true:=by kernel_rfl
theorem Zo.chk:Xa Tryz.prog 83 Zo.fn=true:=by kernel_rfl
theorem Z7.chk:Xa Tryz.prog 84 Z7.fn=true:=by kernel_rfl
theorem V2.chk:Xa Tryz.prog 85 V2.fn=true:=by kernel_rfl
theorem Qk.chk:Xa Tryz.prog 86 Qk.fn=true:=by kernel_rfl
theorem Yc.chk:Xa Tryz.prog 87 Yc.fn=true:=by kernel_rfl
theorem Vv.chk:Xa Tryz.prog 88 Vv.fn=true:=by kernel_rfl
theorem J3.chk:Xa Tryz.prog 89 J3.fn=true:=by kernel_rfl
theorem Jj.chk:Xa Tryz.prog 90 Jj.fn=true:=by kernel_rfl
theorem Ql.chk:Xa Tryz.prog 91 Ql.fn=true:=by kernel_rfl
theorem Qx.chk:Xa Tryz.prog 92 Qx.fn=true:=by kernel_rfl
theorem Vp.chk:Xa Tryz.prog 93 Vp.fn=true:=by kernel_rfl
theorem Yy.chk:Xa Tryz.prog 94 Yy.fn=true:=by kernel_rfl
theorem Yt.chk:Xa Tryz.prog 95 Yt.fn=true:=by kernel_rfl
theorem Qt.chk:Xa Tryz.prog 96 Qt.fn=true:=by kernel_rfl
theorem Jd.chk:Xa Tryz.prog 97 Jd.fn=true:=by kernel_rfl
theorem Jq.chk:Xa Tryz.prog 98 Jq.fn=true:=by kernel_rfl
theorem Je.chk:Xa Tryz.prog 99 Je.fn=true:=by kernel_rfl
theorem Jf.chk:Xa Tryz.prog 100 Jf.fn=true:=by kernel_rfl
theorem Jg.chk:Xa Tryz.prog 102 Jg.fn=true:=by kernel_rfl
theorem Ja.chk:Xa Tryz.prog 103 Ja.fn=true:=by kernel_rfl
theorem Xh.chk:Xa Tryz.prog 104 Xh.fn=true:=by kernel_rfl
theorem Jh.chk:Xa Tryz.prog 105 Jh.fn=true:=by kernel_rfl
theorem Qz.chk:Xa Tryz.prog 106 Qz.fn=true:=by kernel_rfl
theorem K3.chk:Xa Tryz.prog 107 K3.fn=true:=by kernel_rfl
theorem Yg.chk:Xa Tryz.prog 108 Yg.fn=true:=by kernel_rfl
theorem Qm.chk:Xa Tryz.prog 109 Qm.fn=true:=by kernel_rfl
theorem Qn.chk:Xa Tryz.prog 110 Qn.fn=true:=by kernel_rfl
theorem Qo.chk:Xa Tryz.prog 111 Qo.fn=true:=by kernel_rfl
theorem Qp.chk:Xa Tryz.prog 112 Qp.fn=true:=by kernel_rfl
theorem Ks.chk:Xa Tryz.prog 113 Ks.fn=true:=by kernel_rfl
theorem Y2.chk:Xa Tryz.prog 114 Y2.fn=true:=by kernel_rfl
theorem Yn.chk:Xa Tryz.prog 115 Yn.fn=true:=by kernel_rfl
theorem Yq.chk:Xa Tryz.prog 117 Yq.fn=true:=by kernel_rfl
theorem Yi.chk:Xa Tryz.prog 118 Yi.fn=true:=by kernel_rfl
theorem Y0.chk:Xa Tryz.prog 119 Y0.fn=true:=by kernel_rfl
theorem Xk.chk:Xa Tryz.prog 120 Xk.fn=true:=by kernel_rfl
theorem V3.chk:Xa Tryz.prog 121 V3.fn=true:=by kernel_rfl
theorem Jb.chk:Xa Tryz.prog 122 Jb.fn=true:=by kernel_rfl
theorem Yz.chk:Xa Tryz.prog 123 Yz.fn=true:=by kernel_rfl
theorem Z8.chk:Xa Tryz.prog 124 Z8.fn=true:=by kernel_rfl
theorem Xo.chk:Xa Tryz.prog 125 Xo.fn=true:=by kernel_rfl
theorem Zk.chk:Xa Tryz.prog 127 Zk.fn=true:=by kernel_rfl
theorem Qs.chk:Xa Tryz.prog 128 Qs.fn=true:=by kernel_rfl
theorem J8.chk:Xa Tryz.prog 129 J8.fn=true:=by kernel_rfl
theorem Vs.chk:Xa Tryz.prog 130 Vs.fn=true:=by kernel_rfl
theorem H4.chk:Xa Tryz.prog 131 H4.fn=true:=by kernel_rfl
theorem Yp.chk:Xa Tryz.prog 133 Yp.fn=true:=by kernel_rfl
theorem Hz.chk:Xa Tryz.prog 135 Hz.fn=true:=by kernel_rfl
theorem ACj:∀ f g,prog f=some g→Xa Tryz.prog f g=true:=fun f g h=>by
  unfold prog at h
  split at h
  · cases h; exact Zi.chk
  · cases h; exact Xw.chk
  · cases h; exact X4.chk
  · cases h; exact X8.chk
  · cases h; exact Q0.chk
  · cases h; exact Q7.chk
  · cases h; exact Zg.chk
  · cases h; exact X2.chk
  · cases h; exact Jr.chk
  · cases h; exact Wv.chk
  · cases h; exact X3.chk
  · cases h; exact K1.chk
  · cases h; exact Q6.chk
  · cases h; exact Qv.chk
  · cases h; exact Zc.chk
  · cases h; exact Z5.chk
  · cases h; exact X7.chk
  · cases h; exact Zx.chk
  · cases h; exact Zz.chk
  · cases h; exact X9.chk
  · cases h; exact Zf.chk
  · cases h; exact Zh.chk
  · cases h; exact K9.chk
  · cases h; exact Ha.chk
  · cases h; exact Y9.chk
  · cases h; exact Gg.chk
  · cases h; exact Ka.chk
  · cases h; exact Hy.chk
  · cases h; exact Pg.chk
  · cases h; exact Qd.chk
  · cases h; exact V7.chk
  · cases h; exact Qe.chk
  · cases h; exact V8.chk
  · cases h; exact Ph.chk
  · cases h; exact Qf.chk
  · cases h; exact Hb.chk
  · cases h; exact Qg.chk
  · cases h; exact V5.chk
  · cases h; exact Qh.chk
  · cases h; exact V1.chk
  · cases h; exact Qi.chk
  · cases h; exact Vf.chk
  · cases h; exact Qj.chk
  · cases h; exact Vg.chk
  · cases h; exact Z1.chk
  · cases h; exact Tp.chk
  · cases h; exact Vh.chk
  · cases h; exact V6.chk
  · cases h; exact Kp.chk
  · cases h; exact Ue.chk
  · cases h; exact Zo.chk
  · cases h; exact Z7.chk
  · cases h; exact V2.chk
  · cases h; exact Qk.chk
  · cases h; exact Yc.chk
  · cases h; exact Vv.chk
  · cases h; exact J3.chk
  · cases h; exact Jj.chk
  · cases h; exact Ql.chk
  · cases h; exact Qx.chk
  · cases h; exact Vp.chk
  · cases h; exact Yy.chk
  · cases h; exact Yt.chk
  · cases h; exact Qt.chk
  · cases h; exact Jd.chk
  · cases h; exact Jq.chk
  · cases h; exact Je.chk
  · cases h; exact Jf.chk
  · cases h; exact Jg.chk
  · cases h; exact Ja.chk
  · cases h; exact Xh.chk
  · cases h; exact Jh.chk
  · cases h; exact Qz.chk
  · cases h; exact K3.chk
  · cases h; exact Yg.chk
  · cases h; exact Qm.chk
  · cases h; exact Qn.chk
  · cases h; exact Qo.chk
  · cases h; exact Qp.chk
  · cases h; exact Ks.chk
  · cases h; exact Y2.chk
  · cases h; exact Yn.chk
  · cases h; exact Yq.chk
  · cases h; exact Yi.chk
  · cases h; exact Y0.chk
  · cases h; exact Xk.chk
  · cases h; exact V3.chk
  · cases h; exact Jb.chk
  · cases h; exact Yz.chk
  · cases h; exact Z8.chk
  · cases h; exact Xo.chk
  · cases h; exact Zk.chk
  · cases h; exact Qs.chk
  · cases h; exact J8.chk
  · cases h; exact Vs.chk
  · cases h; exact H4.chk
  · cases h; exact Yp.chk
  · cases h; exact Hz.chk
  · cases h
end Go.Proofs.YtpemapoblhleoaaGreatDoor.Ghost
