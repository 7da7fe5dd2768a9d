/- The walk of the law PointsTransitive. -/

