/- Each function's ghost code is the program's. Conditions: none. -/
import Derived.Test.YtpemapoblhleoaaGreatDoorA4
import Derived.Test.YtpemapoblhleoaaGreatDoorGF
import Derived.KernelRfl
import Derived.Test.YtpemapoblhleoaaGreatDoorProg
namespace Go.Proofs.YtpemapoblhleoaaGreatDoor.Ghost
open Go
theorem Xq.chk:Xb Tryz.prog 5 Xq.fn=true:=by kernel_rfl
theorem Xd.chk:Xb Tryz.prog 7 Xd.fn=true:=by kernel_rfl
theorem X6.chk:Xb Tryz.prog 8 X6.fn=true:=by kernel_rfl
theorem X4.chk:Xb Tryz.prog 9 X4.fn=true:=by kernel_rfl
theorem Qe.chk:Xb Tryz.prog 10 Qe.fn=true:=by kernel_rfl
theorem Zk.chk:Xb Tryz.prog 12 Zk.fn=true:=by kernel_rfl
theorem Xy.chk:Xb Tryz.prog 13 Xy.fn=true:=by kernel_rfl
theorem Zf.chk:Xb Tryz.prog 14 Zf.fn=true:=by kernel_rfl
theorem Jq.chk:Xb Tryz.prog 18 Jq.fn=true:=by kernel_rfl
theorem Wx.chk:Xb Tryz.prog 19 Wx.fn=true:=by kernel_rfl
theorem X5.chk:Xb Tryz.prog 20 X5.fn=true:=by kernel_rfl
theorem K0.chk:Xb Tryz.prog 21 K0.fn=true:=by kernel_rfl
theorem Zq.chk:Xb Tryz.prog 33 Zq.fn=true:=by kernel_rfl
theorem Zs.chk:Xb Tryz.prog 34 Zs.fn=true:=by kernel_rfl
theorem Zx.chk:Xb Tryz.prog 35 Zx.fn=true:=by kernel_rfl
theorem Zc.chk:Xb Tryz.prog 36 Zc.fn=true:=by kernel_rfl
theorem Z5.chk:Xb Tryz.prog 37 Z5.fn=true:=by kernel_rfl
theorem Ya.chk:Xb Tryz.prog 38 Ya.fn=true:=by kernel_rfl
theorem Zy.chk:Xb Tryz.prog 39 Zy.fn=true:=by kernel_rfl
theorem Z0.chk:Xb Tryz.prog 40 Z0.fn=true:=by kernel_rfl
theorem Yb.chk:Xb Tryz.prog 41 Yb.fn=true:=by kernel_rfl
theorem K7.chk:Xb Tryz.prog 45 K7.fn=true:=by kernel_rfl
theorem K8.chk:Xb Tryz.prog 46 K8.fn=true:=by kernel_rfl
theorem Qb.chk:Xb Tryz.prog 47 Qb.fn=true:=by kernel_rfl
theorem Gh.chk:Xb Tryz.prog 48 Gh.fn=true:=by kernel_rfl
theorem Ka.chk:Xb Tryz.prog 49 Ka.fn=true:=by kernel_rfl
theorem Hx.chk:Xb Tryz.prog 50 Hx.fn=true:=by kernel_rfl
theorem Ph.chk:Xb Tryz.prog 51 Ph.fn=true:=by kernel_rfl
theorem Qf.chk:Xb Tryz.prog 52 Qf.fn=true:=by kernel_rfl
theorem V7.chk:Xb Tryz.prog 53 V7.fn=true:=by kernel_rfl
theorem Qg.chk:Xb Tryz.prog 54 Qg.fn=true:=by kernel_rfl
theorem V8.chk:Xb Tryz.prog 55 V8.fn=true:=by kernel_rfl
theorem Pi.chk:Xb Tryz.prog 56 Pi.fn=true:=by kernel_rfl
theorem Qh.chk:Xb Tryz.prog 57 Qh.fn=true:=by kernel_rfl
theorem K9.chk:Xb Tryz.prog 58 K9.fn=true:=by kernel_rfl
theorem Qi.chk:Xb Tryz.prog 59 Qi.fn=true:=by kernel_rfl
theorem V5.chk:Xb Tryz.prog 60 V5.fn=true:=by kernel_rfl
theorem Qj.chk:Xb Tryz.prog 61 Qj.fn=true:=by kernel_rfl
theorem V1.chk:Xb Tryz.prog 62 V1.fn=true:=by kernel_rfl
theorem Qk.chk:Xb Tryz.prog 63 Qk.fn=true:=by kernel_rfl
theorem Vd.chk:Xb Tryz.prog 64 Vd.fn=true:=by kernel_rfl
theorem Ql.chk:Xb Tryz.prog 65 Ql.fn=true:=by kernel_rfl
theorem Ve.chk:Xb Tryz.prog 66 Ve.fn=true:=by kernel_rfl
theorem Z2.chk:Xb Tryz.prog 67 Z2.fn=true:=by kernel_rfl
theorem Tu.chk:Xb Tryz.prog 68 Tu.fn=true:=by kernel_rfl
theorem Vf.chk:Xb Tryz.prog 69 Vf.fn=true:=by kernel_rfl
theorem V6.chk:Xb Tryz.prog 70 V6.fn=true:=by kernel_rfl
theorem Kl.chk:Xb Tryz.prog 81 Kl.fn=true:=by kernel_rfl
theorem Uf.chk:Xb Tryz.prog 82 Uf.fn=true:=by kernel_rfl
theorem Zl.chk:Xb Tryz.prog 83 Zl.fn=true:=by kernel_rfl
theorem Z6.chk:Xb Tryz.prog 84 Z6.fn=true:=by kernel_rfl
theorem V2.chk:Xb Tryz.prog 85 V2.fn=true:=by kernel_rfl
theorem Qm.chk:Xb Tryz.prog 86 Qm.fn=true:=by kernel_rfl
theorem Yd.chk:Xb Tryz.prog 87 Yd.fn=true:=by kernel_rfl
theorem Vu.chk:Xb Tryz.prog 88 Vu.fn=true:=by kernel_rfl
theorem J1.chk:Xb Tryz.prog 89 J1.fn=true:=by kernel_rfl
theorem Jh.chk:Xb Tryz.prog 90 Jh.fn=true:=by kernel_rfl
theorem Qn.chk:Xb Tryz.prog 91 Qn.fn=true:=by kernel_rfl
theorem Qx.chk:Xb Tryz.prog 92 Qx.fn=true:=by kernel_rfl
theorem Vn.chk:Xb Tryz.prog 93 Vn.fn=true:=by kernel_rfl
theorem Y1.chk:Xb Tryz.prog 94 Y1.fn=true:=by kernel_rfl
theorem Yy.chk:Xb Tryz.prog 95 Yy.fn=true:=by kernel_rfl
theorem Qv.chk:Xb Tryz.prog 96 Qv.fn=true:=by kernel_rfl
theorem Jb.chk:Xb Tryz.prog 97 Jb.fn=true:=by kernel_rfl
theorem Jp.chk:Xb Tryz.prog 98 Jp.fn=true:=by kernel_rfl
theorem Jc.chk:Xb Tryz.prog 99 Jc.fn=true:=by kernel_rfl
theorem Jd.chk:Xb Tryz.prog 100 Jd.fn=true:=by kernel_rfl
theorem Je.chk:Xb Tryz.prog 102 Je.fn=true:=by kernel_rfl
theorem Q9.chk:Xb Tryz.prog 103 Q9.fn=true:=by kernel_rfl
theorem Xg.chk:Xb Tryz.prog 104 Xg.fn=true:=by kernel_rfl
theorem Jf.chk:Xb Tryz.prog 105 Jf.fn=true:=by kernel_rfl
theorem Qz.chk:Xb Tryz.prog 106 Qz.fn=true:=by kernel_rfl
theorem K2.chk:Xb Tryz.prog 107 K2.fn=true:=by kernel_rfl
theorem Yh.chk:Xb Tryz.prog 108 Yh.fn=true:=by kernel_rfl
theorem Qo.chk:Xb Tryz.prog 109 Qo.fn=true:=by kernel_rfl
theorem Qp.chk:Xb Tryz.prog 110 Qp.fn=true:=by kernel_rfl
theorem Qq.chk:Xb Tryz.prog 111 Qq.fn=true:=by kernel_rfl
theorem Qr.chk:Xb Tryz.prog 112 Qr.fn=true:=by kernel_rfl
theorem Ko.chk:Xb Tryz.prog 113 Ko.fn=true:=by kernel_rfl
theorem Y4.chk:Xb Tryz.prog 114 Y4.fn=true:=by kernel_rfl
theorem Yp.chk:Xb Tryz.prog 115 Yp.fn=true:=by kernel_rfl
theorem Yv.chk:Xb Tryz.prog 117 Yv.fn=true:=by kernel_rfl
theorem Yj.chk:Xb Tryz.prog 118 Yj.fn=true:=by kernel_rfl
theorem Y3.chk:Xb Tryz.prog 119 Y3.fn=true:=by kernel_rfl
theorem Xi.chk:Xb Tryz.prog 120 Xi.fn=true:=by kernel_rfl
theorem V3.chk:Xb Tryz.prog 121 V3.fn=true:=by kernel_rfl
theorem Ja.chk:Xb Tryz.prog 122 Ja.fn=true:=by kernel_rfl
theorem Y2.chk:Xb Tryz.prog 123 Y2.fn=true:=by kernel_rfl
theorem Z7.chk:Xb Tryz.prog 124 Z7.fn=true:=by kernel_rfl
theorem Xn.chk:Xb Tryz.prog 125 Xn.fn=true:=by kernel_rfl
theorem Zh.chk:Xb Tryz.prog 127 Zh.fn=true:=by kernel_rfl
theorem Qu.chk:Xb Tryz.prog 128 Qu.fn=true:=by kernel_rfl
theorem J6.chk:Xb Tryz.prog 129 J6.fn=true:=by kernel_rfl
theorem Vq.chk:Xb Tryz.prog 130 Vq.fn=true:=by kernel_rfl
theorem H3.chk:Xb Tryz.prog 131 H3.fn=true:=by kernel_rfl
theorem Yu.chk:Xb Tryz.prog 133 Yu.fn=true:=by kernel_rfl
theorem Hy.chk:Xb Tryz.prog 135 Hy.fn=true:=by kernel_rfl
theorem ACb:∀ f g,prog f=some g→Xb Tryz.prog f g=true:=fun f g h=>by
  unfold prog at h
  split at h
  · cases h; exact Xq.chk
  · cases h; exact Xd.chk
  · cases h; exact X6.chk
  · cases h; exact X4.chk
  · cases h; exact Qe.chk
  · cases h; exact Zk.chk
  · cases h; exact Xy.chk
  · cases h; exact Zf.chk
  · cases h; exact Jq.chk
  · cases h; exact Wx.chk
  · cases h; exact X5.chk
  · cases h; exact K0.chk
  · cases h; exact Zq.chk
  · cases h; exact Zs.chk
  · cases h; exact Zx.chk
  · cases h; exact Zc.chk
  · cases h; exact Z5.chk
  · cases h; exact Ya.chk
  · cases h; exact Zy.chk
  · cases h; exact Z0.chk
  · cases h; exact Yb.chk
  · cases h; exact K7.chk
  · cases h; exact K8.chk
  · cases h; exact Qb.chk
  · cases h; exact Gh.chk
  · cases h; exact Ka.chk
  · cases h; exact Hx.chk
  · cases h; exact Ph.chk
  · cases h; exact Qf.chk
  · cases h; exact V7.chk
  · cases h; exact Qg.chk
  · cases h; exact V8.chk
  · cases h; exact Pi.chk
  · cases h; exact Qh.chk
  · cases h; exact K9.chk
  · cases h; exact Qi.chk
  · cases h; exact V5.chk
  · cases h; exact Qj.chk
  · cases h; exact V1.chk
  · cases h; exact Qk.chk
  · cases h; exact Vd.chk
  · cases h; exact Ql.chk
  · cases h; exact Ve.chk
  · cases h; exact Z2.chk
  · cases h; exact Tu.chk
  · cases h; exact Vf.chk
  · cases h; exact V6.chk
  · cases h; exact Kl.chk
  · cases h; exact Uf.chk
  · cases h; exact Zl.chk
  · cases h; exact Z6.chk
  · cases h; exact V2.chk
  · cases h; exact Qm.chk
  · cases h; exact Yd.chk
  · cases h; exact Vu.chk
  · cases h; exact J1.chk
  · cases h; exact Jh.chk
  · cases h; exact Qn.chk
  · cases h; exact Qx.chk
  · cases h; exact Vn.chk
  · cases h; exact Y1.chk
  · cases h; exact Yy.chk
  · cases h; exact Qv.chk
  · cases h; exact Jb.chk
  · cases h; exact Jp.chk
  · cases h; exact Jc.chk
  · cases h; exact Jd.chk
  · cases h; exact Je.chk
  · cases h; exact Q9.chk
  · cases h; exact Xg.chk
  · cases h; exact Jf.chk
  · cases h; exact Qz.chk
  · cases h; exact K2.chk
  · cases h; exact Yh.chk
  · cases h; exact Qo.chk
  · cases h; exact Qp.chk
  · cases h; exact Qq.chk
  · cases h; exact Qr.chk
  · cases h; exact Ko.chk
  · cases h; exact Y4.chk
  · cases h; exact Yp.chk
  · cases h; exact Yv.chk
  · cases h; exact Yj.chk
  · cases h; exact Y3.chk
  · cases h; exact Xi.chk
  · cases h; exact V3.chk
  · cases h; exact Ja.chk
  · cases h; exact Y2.chk
  · cases h; exact Z7.chk
  · cases h; exact Xn.chk
  · cases h; exact Zh.chk
  · cases h; exact Qu.chk
  · cases h; exact J6.chk
  · cases h; exact Vq.chk
  · cases h; exact H3.chk
  · cases h; exact Yu.chk
  · cases h; exact Hy.chk
  · cases h
end Go.Proofs.YtpemapoblhleoaaGreatDoor.Ghost
